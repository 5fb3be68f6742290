import Derived.Test.YtfbadcjojkgibaaDoorNameL1
/-! Names: comparison and what is below, as the program tells them. -/
namespace Go.Proofs.YtfbadcjojkgibaaDoor.Plain
open Go.RowKit Go.Proofs.YtfbadcjojkgibaaDoorW.PrintWords Go.Proofs.YtfbadcjojkgibaaDoorW.PrintLast Go.Proofs.YtfbadcjojkgibaaDoorW.PrintMore Go.Proofs.YtfbadcjojkgibaaDoor.N
set_option linter.unusedVariables false
set_option linter.unusedSimpArgs false
theorem small_ok (b : Int) (h0 : 0 ≤ b) (h1 : b ≤ 255) : name_small.f b = some (sm b) ∧ 0 ≤ sm b ∧ sm b ≤ 255 := by
  unfold name_small.f sm
  by_cases h : 65 ≤ b
  · rw [if_pos h, if_pos h]
    by_cases h2 : b ≤ 90
    · rw [if_pos h2, if_pos h2]
      refine ⟨congrArg some ?_, by omega, by omega⟩
      omega
    · rw [if_neg h2, if_neg h2]
      exact ⟨rfl, h0, h1⟩
  · rw [if_neg (show ¬ b ≥ 65 from h), if_neg h]
    exact ⟨rfl, h0, h1⟩
theorem wnat (i : Nat) (h : i ≤ 4611686018427387001) : wrap64 ((i : Int) + 1) = ((i + 1 : Nat) : Int) := by rw [w64 (by omega) (by omega)]; rfl
theorem fold_drop (a : ByteArray) (i : Nat) (h : i < a.size) : (fold (bytesOf a)).drop i = sm (bt a (i : Int)) :: (fold (bytesOf a)).drop (i + 1) := by
  unfold fold
  rw [← List.map_drop, ← List.map_drop, drop_rd (bytesOf a) i (by rw [bytesOf_length]; exact h), ← bt_rd]
  rfl
theorem fold_end (a : ByteArray) (i : Nat) (h : a.size ≤ i) : (fold (bytesOf a)).drop i = [] := by
  apply List.drop_eq_nil_of_le
  unfold fold
  rw [List.length_map, bytesOf_length]
  exact h
theorem fold_one (a : ByteArray) (i : Nat) (h : i < a.size) : ∃ x r, (fold (bytesOf a)).drop i = x :: r := ⟨_, _, fold_drop a i h⟩
theorem labels_loop (a b : ByteArray) (ha : a.size ≤ 4611686018427387000) (hb : b.size ≤ 4611686018427387000) : ∀ (n i : Nat), i + n = min a.size b.size →
    ∃ d, (∀ k, n + 2 ≤ k → name_labels.l0 k a b ((min a.size b.size : Nat) : Int) (i : Int) = some d) ∧ sgn d = lex icmp ((fold (bytesOf a)).drop i) ((fold (bytesOf b)).drop i) := by
  intro n
  induction n with
  | zero =>
    intro i hi
    refine ⟨wrap64 ((a.size : Int) - (b.size : Int)), fun k hk => ?_, ?_⟩
    · obtain ⟨k, rfl⟩ : ∃ m, k = m + 1 := ⟨k - 1, by omega⟩
      rw [name_labels.l0, if_neg (by omega)]
    · rw [w64 (by omega) (by omega)]
      by_cases h1 : a.size ≤ i
      · rw [fold_end a i h1]
        by_cases h2 : b.size ≤ i
        · rw [fold_end b i h2]
          unfold sgn lex
          omega
        · obtain ⟨x, r, e⟩ := fold_one b i (by omega)
          rw [e]
          unfold sgn lex
          omega
      · obtain ⟨x, r, e⟩ := fold_one a i (by omega)
        rw [e, fold_end b i (by omega)]
        unfold sgn lex
        omega
  | succ n ih =>
    intro i hi
    obtain ⟨d, hd, hs⟩ := ih (i + 1) (by omega)
    have ra := bt_range a (i : Int)
    have rb := bt_range b (i : Int)
    obtain ⟨sa, pa, qa⟩ := small_ok _ ra.1 ra.2
    obtain ⟨sb, pb, qb⟩ := small_ok _ rb.1 rb.2
    rw [fold_drop a i (by omega), fold_drop b i (by omega)]
    by_cases e : sm (bt a (i : Int)) = sm (bt b (i : Int))
    · refine ⟨d, fun k hk => ?_, ?_⟩
      · obtain ⟨k, rfl⟩ : ∃ m, k = m + 1 := ⟨k - 1, by omega⟩
        rw [name_labels.l0, if_pos (by omega), if_pos (by omega), if_pos (by omega), sa, Option.bind_some, if_pos (by omega), sb, Option.bind_some, if_pos e, wnat i (by omega)]
        exact hd k (by omega)
      · rw [hs]
        unfold lex
        rw [if_pos (by unfold icmp; omega)]
        cases hx : (fold (bytesOf a)).drop (i + 1) <;> cases hy : (fold (bytesOf b)).drop (i + 1) <;> simp [lex]
    · refine ⟨wrap64 (wrap64 (sm (bt a (i : Int))) - wrap64 (sm (bt b (i : Int)))), fun k hk => ?_, ?_⟩
      · obtain ⟨k, rfl⟩ : ∃ m, k = m + 1 := ⟨k - 1, by omega⟩
        rw [name_labels.l0, if_pos (by omega), if_pos (by omega), if_pos (by omega), sa, Option.bind_some, if_pos (by omega), sb, Option.bind_some, if_neg e]
      · rw [w64 (x := sm (bt a (i : Int))) (by omega) (by omega), w64 (x := sm (bt b (i : Int))) (by omega) (by omega), w64 (by omega) (by omega)]
        unfold lex
        unfold sgn icmp
        repeat' split
        all_goals omega
theorem mn_min (a b : Nat) : mn (a : Int) (b : Int) = ((min a b : Nat) : Int) := by unfold mn; split <;> omega
/-- Two labels held against each other. -/
theorem labels_ok (a b : ByteArray) (ha : a.size ≤ 4611686018427387000) (hb : b.size ≤ 4611686018427387000) :
    ∃ d, (∀ k, a.size + 2 ≤ k → name_labels.f k a b = some d) ∧ sgn d = cmpL (fold (bytesOf a)) (fold (bytesOf b)) := by
  obtain ⟨d, hd, hs⟩ := labels_loop a b ha hb (min a.size b.size) 0 (by omega)
  refine ⟨d, fun k hk => ?_, ?_⟩
  · unfold name_labels.f
    rw [mn_min]
    exact hd k (by omega)
  · rw [hs]; rfl
theorem sign_ok (d : Int) : name_sign.f d = some (sgn d) := by
  unfold name_sign.f mx mn sgn
  repeat' split
  all_goals (first | rfl | omega | (congr 1; omega))
/-! lists of labels -/
def lf (X : List ByteArray) : List (List Int) := X.map fun x => fold (bytesOf x)
theorem lf_eq {X : List ByteArray} {s : List Int} (h : X.map bytesOf = Ls s) : (lf X).reverse = key s := by
  unfold key keyOf
  rw [← h, List.map_map]
  rfl
theorem lf_len (X : List ByteArray) : (lf X).length = X.length := by unfold lf; rw [List.length_map]
theorem rdOf_nat (X : List ByteArray) (i : Nat) (h : i < X.length) : rdOf ByteArray.empty X (i : Int) = X[i] := by
  unfold rdOf
  rw [Int.toNat_natCast, List.getD_eq_getElem?_getD, List.getElem?_eq_getElem h]
  rfl
theorem lf_rev (X : List ByteArray) (i : Nat) (h : i < X.length) : (lf X).reverse.drop i = fold (bytesOf (rdOf ByteArray.empty X ((X.length - 1 - i : Nat) : Int))) :: (lf X).reverse.drop (i + 1) := by
  rw [rdOf_nat X _ (by omega), List.drop_eq_getElem_cons (by rw [List.length_reverse, lf_len]; exact h)]
  refine List.cons_eq_cons.2 ⟨?_, rfl⟩
  rw [List.getElem_reverse]
  unfold lf
  rw [List.getElem_map]
  simp [List.length_map]
theorem lf_rev_end (X : List ByteArray) (i : Nat) (h : X.length ≤ i) : (lf X).reverse.drop i = [] := List.drop_eq_nil_of_le (by rw [List.length_reverse, lf_len]; exact h)
theorem wsub (m i : Nat) (h : i < m) (hm : m ≤ 4611686018427387000) : wrap64 ((m : Int) - ((i : Int) + 1)) = ((m - 1 - i : Nat) : Int) := by rw [w64 (by omega) (by omega)]; omega
theorem sgn_len (m n : Nat) (hm : m ≤ 4611686018427387000) (hn : n ≤ 4611686018427387000) : sgn (wrap64 ((m : Int) - (n : Int))) = sgn ((m : Int) - (n : Int)) := by rw [w64 (by omega) (by omega)]
theorem sgn_zero {d : Int} : sgn d = 0 ↔ d = 0 := by unfold sgn; repeat' split
                                                     all_goals omega
theorem Compare_loop (X Y : List ByteArray) (S : Nat) (hx : X.length ≤ 4611686018427387000) (hy : Y.length ≤ 4611686018427387000) (hS : S ≤ 4611686018427387000) (hX : ∀ x ∈ X, x.size ≤ S) (hY : ∀ x ∈ Y, x.size ≤ 4611686018427387000) : ∀ (n i : Nat), i + n = X.length → i ≤ Y.length →
    ∀ k, 2 * n + S + 5 ≤ k → name_Compare.l0 k X Y ((i : Int) + 1) = some (lex cmpL ((lf X).reverse.drop i) ((lf Y).reverse.drop i)) := by
  intro n
  induction n with
  | zero =>
    intro i hi hiy k hk
    obtain ⟨k, rfl⟩ : ∃ m, k = m + 2 := ⟨k - 2, by omega⟩
    rw [name_Compare.l0, if_neg (by omega), name_Compare.j1, if_neg (by decide), sign_ok, Option.bind_some, sgn_len _ _ hx hy, lf_rev_end X i (by omega)]
    congr 1
    by_cases h2 : Y.length ≤ i
    · rw [lf_rev_end Y i h2]
      unfold sgn lex
      omega
    · rw [lf_rev Y i (by omega)]
      unfold sgn lex
      omega
  | succ n ih =>
    intro i hi hiy k hk
    obtain ⟨k, rfl⟩ : ∃ m, k = m + 2 := ⟨k - 2, by omega⟩
    rw [name_Compare.l0, if_pos (by omega), name_Compare.j1]
    by_cases h2 : Y.length ≤ i
    · rw [if_neg (by simp; omega), sign_ok, Option.bind_some, sgn_len _ _ hx hy, lf_rev_end Y i h2, lf_rev X i (by omega)]
      congr 1
      unfold sgn lex
      omega
    · rw [if_pos (by simp; omega), wsub X.length i (by omega) hx, wsub Y.length i (by omega) hy, if_pos (by omega), if_pos (by omega), if_pos (by omega), if_pos (by omega)]
      rw [lf_rev X i (by omega), lf_rev Y i (by omega)]
      have mX : rdOf ByteArray.empty X ((X.length - 1 - i : Nat) : Int) ∈ X := by rw [rdOf_nat X _ (by omega)]; exact List.getElem_mem _
      have mY : rdOf ByteArray.empty Y ((Y.length - 1 - i : Nat) : Int) ∈ Y := by rw [rdOf_nat Y _ (by omega)]; exact List.getElem_mem _
      have sX := hX _ mX
      obtain ⟨d, hd, hs⟩ := labels_ok (rdOf ByteArray.empty X ((X.length - 1 - i : Nat) : Int)) (rdOf ByteArray.empty Y ((Y.length - 1 - i : Nat) : Int)) (by omega) (hY _ mY)
      rw [hd k (by omega), Option.bind_some]
      conv => rhs; unfold lex
      by_cases e : d = 0
      · rw [if_pos e, if_pos (by rw [← hs]; exact sgn_zero.2 e)]
        have := ih (i + 1) (by omega) (by omega) k (by omega)
        rw [show (((i + 1 : Nat) : Int) + 1) = (((i : Int) + 1) + 1) by omega] at this
        rw [w64 (by omega) (by omega), this]
      · rw [if_neg e, if_neg (by rw [← hs]; exact fun q => e (sgn_zero.1 q)), sign_ok, Option.bind_some, hs]
theorem size_of_Ls {X : List ByteArray} {a : ByteArray} (h : X.map bytesOf = Ls (bytesOf a)) : X.length ≤ a.size + 1 ∧ ∀ x ∈ X, x.size ≤ a.size := by
  constructor
  · have := Ls_len (bytesOf a)
    rw [← h, List.length_map, bytesOf_length] at this
    exact this
  · intro x hx
    have := Ls_size (bytesOf a) (bytesOf x) (by rw [← h]; exact List.mem_map_of_mem hx)
    rw [bytesOf_length, bytesOf_length] at this
    exact this
/-- Compare. -/
theorem Compare_ok (a b : ByteArray) (ha : a.size ≤ 4000000000) (hb : b.size ≤ 4000000000) (k : Nat) (hk : 3 * a.size + 20 ≤ k) : name_Compare.f k a b = some (cmpN (bytesOf a) (bytesOf b)) := by
  obtain ⟨X, hX, eX⟩ := Labels_ok a ha
  obtain ⟨Y, hY, eY⟩ := Labels_ok b hb
  obtain ⟨lX, sX⟩ := size_of_Ls eX
  obtain ⟨lY, sY⟩ := size_of_Ls eY
  unfold name_Compare.f
  rw [hX, Option.bind_some, hY, Option.bind_some]
  have := Compare_loop X Y a.size (by omega) (by omega) (by omega) sX (fun x hx => by have := sY x hx; omega) X.length 0 (by omega) (by omega) k (by omega)
  rw [List.drop_zero, List.drop_zero, lf_eq eX, lf_eq eY] at this
  exact this
theorem lf_fwd (X : List ByteArray) (i : Nat) (h : i < X.length) : (lf X).drop i = fold (bytesOf (rdOf ByteArray.empty X (i : Int))) :: (lf X).drop (i + 1) := by
  rw [rdOf_nat X _ h, List.drop_eq_getElem_cons (by rw [lf_len]; exact h)]
  unfold lf
  rw [List.getElem_map]
theorem Below_loop (X Y : List ByteArray) (S : Nat) (he : X.length = Y.length) (hx : X.length ≤ 4611686018427387000) (hS : S ≤ 4611686018427387000) (hX : ∀ x ∈ X, x.size ≤ S) (hY : ∀ x ∈ Y, x.size ≤ 4611686018427387000) : ∀ (n i : Nat), i + n = Y.length →
    ∀ k, n + S + 5 ≤ k → name_Below.l0 k X Y (Y.length : Int) (i : Int) = some (decide ((lf X).drop i = (lf Y).drop i)) := by
  intro n
  induction n with
  | zero =>
    intro i hi k hk
    obtain ⟨k, rfl⟩ : ∃ m, k = m + 1 := ⟨k - 1, by omega⟩
    rw [name_Below.l0, if_neg (by omega), List.drop_eq_nil_of_le (by rw [lf_len]; omega), List.drop_eq_nil_of_le (by rw [lf_len]; omega)]
    simp
  | succ n ih =>
    intro i hi k hk
    obtain ⟨k, rfl⟩ : ∃ m, k = m + 1 := ⟨k - 1, by omega⟩
    rw [name_Below.l0, if_pos (by omega), if_pos (by omega), if_pos (by omega), if_pos (by omega)]
    have mX : rdOf ByteArray.empty X (i : Int) ∈ X := by rw [rdOf_nat X _ (by omega)]; exact List.getElem_mem _
    have mY : rdOf ByteArray.empty Y (i : Int) ∈ Y := by rw [rdOf_nat Y _ (by omega)]; exact List.getElem_mem _
    have sX := hX _ mX
    obtain ⟨d, hd, hs⟩ := labels_ok (rdOf ByteArray.empty X (i : Int)) (rdOf ByteArray.empty Y (i : Int)) (by omega) (hY _ mY)
    rw [hd k (by omega), Option.bind_some, lf_fwd X i (by omega), lf_fwd Y i (by omega)]
    by_cases e : d = 0
    · have e2 := (cmpL_is.eq _ _).1 (hs.symm.trans (sgn_zero.2 e))
      rw [if_pos e, wnat i (by omega), ih (i + 1) (by omega) k (by omega), e2]
      simp
    · rw [if_neg e]
      have e2 : ¬ fold (bytesOf (rdOf ByteArray.empty X (i : Int))) = fold (bytesOf (rdOf ByteArray.empty Y (i : Int))) := fun q => e (sgn_zero.1 (hs.trans ((cmpL_is.eq _ _).2 q)))
      simp [e2]
/-- Is a b, or below it? -/
def isBelow (s t : List Int) : Bool := decide (key t <+: key s)
theorem suffix_drop {α : Type} (s t : List α) : t <:+ s ↔ t.length ≤ s.length ∧ s.drop (s.length - t.length) = t := by
  constructor
  · intro h
    refine ⟨h.length_le, ?_⟩
    obtain ⟨u, rfl⟩ := h
    rw [List.length_append]
    simp
  · rintro ⟨_, h⟩
    rw [← h]
    exact List.drop_suffix _ _
theorem Below_ok (a b : ByteArray) (ha : a.size ≤ 4000000000) (hb : b.size ≤ 4000000000) (k : Nat) (hk : a.size + b.size + 20 ≤ k) : name_Below.f k a b = some (isBelow (bytesOf a) (bytesOf b)) := by
  obtain ⟨X, hX, eX⟩ := Labels_ok a ha
  obtain ⟨Y, hY, eY⟩ := Labels_ok b hb
  obtain ⟨lX, sX⟩ := size_of_Ls eX
  obtain ⟨lY, sY⟩ := size_of_Ls eY
  unfold name_Below.f
  rw [hX, Option.bind_some, hY, Option.bind_some]
  have hk2 : isBelow (bytesOf a) (bytesOf b) = decide (lf Y <:+ lf X) := by
    unfold isBelow
    rw [← lf_eq eX, ← lf_eq eY]
    simp only [List.reverse_prefix]
  rw [hk2]
  by_cases h : (X.length : Int) < (Y.length : Int)
  · rw [if_pos h]
    congr 1
    symm
    rw [decide_eq_false_iff_not, suffix_drop, lf_len, lf_len]
    omega
  · rw [if_neg h, w64 (by omega) (by omega), if_pos (by omega), if_pos (by omega)]
    have e : ((X.length : Int) - (Y.length : Int)).toNat = X.length - Y.length := by omega
    rw [e]
    have := Below_loop (X.drop (X.length - Y.length)) Y a.size (by rw [List.length_drop]; omega) (by rw [List.length_drop]; omega) (by omega) (fun x hx => sX x (List.mem_of_mem_drop hx)) (fun x hx => by have := sY x hx; omega) Y.length 0 (by omega) k (by omega)
    rw [List.drop_zero, List.drop_zero] at this
    rw [show ((0 : Nat) : Int) = 0 from rfl] at this
    rw [this]
    congr 1
    rw [decide_eq_decide, suffix_drop, lf_len, lf_len]
    unfold lf
    rw [List.map_drop]
    constructor
    · intro h; exact ⟨by omega, h⟩
    · intro h; exact h.2
end Go.Proofs.YtfbadcjojkgibaaDoor.Plain
