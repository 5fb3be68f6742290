import Derived.Test.YtfbadcjojkgibaaDoorNameL3
import Derived.Lib.Join
import Derived.Test.YtfbadcjojkgibaaDoorNx9
import Derived.Test.YtfbadcjojkgibaaDoorNx10
/-! The document's names; NameCompares. -/
namespace Go.Proofs.YtfbadcjojkgibaaDoor.Plain
open Go.RowKit Go.Proofs.YtfbadcjojkgibaaDoorW.PrintWords Go.Proofs.YtfbadcjojkgibaaDoorW.PrintLast Go.Proofs.YtfbadcjojkgibaaDoorW.PrintMore Go.Proofs.YtfbadcjojkgibaaDoor.N
set_option linter.unusedVariables false
set_option linter.unusedSimpArgs false
/-- Labels with full stops between. -/
def jn : List (List Int) → List Int
  | [] => []
  | x :: r => x ++ (r.map (46 :: ·)).flatten
theorem jn_labs : ∀ l : List Int, jn (labs l) = l
  | [] => rfl
  | b :: l => by
    have ih := jn_labs l
    by_cases h : b = 46
    · subst h
      rw [labs_stop]
      cases e : labs l with
      | nil => exact absurd e (labs_ne l)
      | cons x r =>
        rw [e] at ih
        simp only [jn, List.map_cons, List.flatten_cons] at ih ⊢
        rw [← ih]
        simp
    · obtain ⟨x, r, e1, e2⟩ := labs_other h l
      rw [e1] at ih
      rw [e2]
      simp only [jn] at ih ⊢
      rw [← ih]
      simp
theorem drop_split (l : List Int) (f i : Nat) (h : f ≤ i) (hi : i ≤ l.length) : l.drop f = (l.take i).drop f ++ l.drop i := by
  conv => lhs; rw [← List.take_append_drop i l]
  rw [List.drop_append_of_le_length (by rw [List.length_take]; omega)]
theorem RLabels_loop (a : ByteArray) (ha : a.size ≤ 4000000000) : ∀ (n i : Nat), i + n = a.size → ∀ (f : Nat) (x3 : List ByteArray), f ≤ i → x3.length ≤ i → (∀ b ∈ ((bytesOf a).take i).drop f, b ≠ 46) →
    ∃ R, (∀ k, n + 1 ≤ k → endonymref20_Labels.l0 k a x3 (f : Int) (i : Int) = some (x3 ++ R)) ∧ R.map bytesOf = labs ((bytesOf a).drop f) := by
  intro n
  induction n with
  | zero =>
    intro i hi f x3 hf hx hno
    refine ⟨[a.extract f a.size], fun k hk => ?_, ?_⟩
    · obtain ⟨k, rfl⟩ : ∃ m, k = m + 1 := ⟨k - 1, by omega⟩
      rw [endonymref20_Labels.l0, if_neg (by omega), if_pos (by omega), if_pos (by omega), if_pos (by omega), Int.toNat_natCast]
    · rw [List.map_cons, List.map_nil, bytesOf_extract, List.take_of_length_le (by rw [bytesOf_length]; exact Nat.le_refl _)]
      rw [List.take_of_length_le (by rw [bytesOf_length]; omega)] at hno
      rw [labs_none _ hno]
  | succ n ih =>
    intro i hi f x3 hf hx hno
    have hd := drop_split (bytesOf a) f i hf (by rw [bytesOf_length]; omega)
    have hr := drop_rd (bytesOf a) i (by rw [bytesOf_length]; omega)
    rw [← bt_rd] at hr
    by_cases e : bt a (i : Int) = 46
    · obtain ⟨R, h1, h2⟩ := ih (i + 1) (by omega) (i + 1) (x3 ++ [a.extract f i]) (Nat.le_refl _) (by rw [List.length_append]; simp; omega) (by rw [List.drop_eq_nil_of_le (by rw [List.length_take]; omega)]; simp)
      refine ⟨a.extract f i :: R, fun k hk => ?_, ?_⟩
      · obtain ⟨k, rfl⟩ : ∃ m, k = m + 1 := ⟨k - 1, by omega⟩
        rw [endonymref20_Labels.l0, if_pos (by omega), if_pos (by omega), if_pos e, if_pos (by omega), if_pos (by omega), if_pos (by omega), if_pos (by omega), wnat i (by omega), Int.toNat_natCast, Int.toNat_natCast, h1 k (by omega)]
        simp
      · rw [List.map_cons, h2, bytesOf_extract, hd, hr, e, labs_at _ _ hno]
    · obtain ⟨R, h1, h2⟩ := ih (i + 1) (by omega) f x3 (by omega) (by omega) (by
        intro b hb
        rw [take_rd _ i (by rw [bytesOf_length]; omega), List.drop_append_of_le_length (by rw [List.length_take, bytesOf_length]; omega), ← bt_rd] at hb
        rcases List.mem_append.1 hb with hb | hb
        · exact hno b hb
        · rw [List.mem_singleton] at hb; rw [hb]; exact e)
      refine ⟨R, fun k hk => ?_, h2⟩
      obtain ⟨k, rfl⟩ : ∃ m, k = m + 1 := ⟨k - 1, by omega⟩
      rw [endonymref20_Labels.l0, if_pos (by omega), if_pos (by omega), if_neg e, wnat i (by omega), h1 k (by omega)]
theorem RLabels_ok (a : ByteArray) (ha : a.size ≤ 4000000000) : ∃ L, (∀ k, a.size + 1 ≤ k → endonymref20_Labels.f k a = some L) ∧ L.map bytesOf = Ls (bytesOf a) := by
  unfold Ls
  by_cases h : bytesOf a = []
  · refine ⟨[], fun k hk => ?_, by rw [if_pos h]; rfl⟩
    unfold endonymref20_Labels.f
    rw [if_pos ((toList_nil a).2 h)]
  · obtain ⟨R, h1, h2⟩ := RLabels_loop a ha a.size 0 (by omega) 0 [] (Nat.le_refl _) (Nat.zero_le _) (by simp)
    refine ⟨R, fun k hk => ?_, by rw [if_neg h]; exact h2⟩
    unfold endonymref20_Labels.f
    rw [if_neg (fun e => h ((toList_nil a).1 e))]
    exact h1 k hk
theorem Rsmall_ok (b : Int) (h0 : 0 ≤ b) (h1 : b ≤ 255) : endonymref20_small.f b = some (sm b) := by
  unfold endonymref20_small.f sm
  by_cases h : 65 ≤ b
  · rw [if_pos h, if_pos h]
    by_cases h2 : b ≤ 90
    · rw [if_pos h2, if_pos h2]
      congr 1
      omega
    · rw [if_neg h2, if_neg h2]
  · rw [if_neg (show ¬ b ≥ 65 from h), if_neg h]
theorem RLabel_loop (a b : ByteArray) (ha : a.size ≤ 4611686018427387000) (hb : b.size ≤ 4611686018427387000) : ∀ (n i : Nat), i + n = a.size → i ≤ b.size →
    ∀ k, 2 * n + 2 ≤ k → endonymref20_Label.l0 k a b (i : Int) = some (lex icmp ((fold (bytesOf a)).drop i) ((fold (bytesOf b)).drop i)) := by
  intro n
  induction n with
  | zero =>
    intro i hi hib k hk
    obtain ⟨k, rfl⟩ : ∃ m, k = m + 2 := ⟨k - 2, by omega⟩
    rw [endonymref20_Label.l0, if_neg (by omega), endonymref20_Label.j1, if_neg (by decide), fold_end a i (by omega)]
    by_cases h2 : b.size ≤ i
    · rw [fold_end b i h2, if_neg (by omega), if_neg (by omega)]
      rfl
    · obtain ⟨x, r, e⟩ := fold_one b i (by omega)
      rw [e, if_pos (by omega)]
      rfl
  | succ n ih =>
    intro i hi hib k hk
    obtain ⟨k, rfl⟩ : ∃ m, k = m + 2 := ⟨k - 2, by omega⟩
    have ra := bt_range a (i : Int)
    have rb := bt_range b (i : Int)
    rw [endonymref20_Label.l0, if_pos (by omega), endonymref20_Label.j1]
    by_cases h2 : b.size ≤ i
    · rw [if_neg (by simp; omega), if_neg (by omega), if_pos (by omega), fold_end b i h2, fold_drop a i (by omega)]
      rfl
    · rw [if_pos (by simp; omega), if_pos (by omega), if_pos (by omega), Rsmall_ok _ ra.1 ra.2, Option.bind_some, if_pos (by omega), Rsmall_ok _ rb.1 rb.2, Option.bind_some, fold_drop a i (by omega), fold_drop b i (by omega)]
      conv => rhs; unfold lex icmp
      by_cases e1 : sm (bt a (i : Int)) < sm (bt b (i : Int))
      · rw [if_pos e1, if_pos e1, if_neg (by decide)]
      · rw [if_neg e1, if_neg e1]
        by_cases e2 : sm (bt b (i : Int)) < sm (bt a (i : Int))
        · rw [if_pos e2, if_pos e2, if_neg (by decide)]
        · rw [if_neg (show ¬ sm (bt a (i : Int)) > sm (bt b (i : Int)) from e2), if_neg e2, if_pos rfl, wnat i (by omega)]
          exact ih (i + 1) (by omega) (by omega) k (by omega)
theorem RLabel_ok (a b : ByteArray) (ha : a.size ≤ 4611686018427387000) (hb : b.size ≤ 4611686018427387000) (k : Nat) (hk : 2 * a.size + 2 ≤ k) : endonymref20_Label.f k a b = some (cmpL (fold (bytesOf a)) (fold (bytesOf b))) := by
  unfold endonymref20_Label.f
  exact RLabel_loop a b ha hb a.size 0 (by omega) (by omega) k hk
theorem RCompare_loop (X Y : List ByteArray) (S : Nat) (hx : X.length ≤ 4611686018427387000) (hy : Y.length ≤ 4611686018427387000) (hS : S ≤ 4611686018427387000) (hX : ∀ x ∈ X, x.size ≤ S) (hY : ∀ x ∈ Y, x.size ≤ 4611686018427387000) : ∀ (n i : Nat), i + n = X.length → i ≤ Y.length →
    ∀ k, 2 * n + 2 * S + 5 ≤ k → endonymref20_Compare.l0 k X Y ((i : Int) + 1) = some (lex cmpL ((lf X).reverse.drop i) ((lf Y).reverse.drop i)) := by
  intro n
  induction n with
  | zero =>
    intro i hi hiy k hk
    obtain ⟨k, rfl⟩ : ∃ m, k = m + 2 := ⟨k - 2, by omega⟩
    rw [endonymref20_Compare.l0, if_neg (by omega), endonymref20_Compare.j1, if_neg (by decide), lf_rev_end X i (by omega)]
    by_cases h2 : Y.length ≤ i
    · rw [lf_rev_end Y i h2, if_neg (by omega), if_neg (by omega)]
      rfl
    · rw [lf_rev Y i (by omega), if_pos (by omega)]
      rfl
  | succ n ih =>
    intro i hi hiy k hk
    obtain ⟨k, rfl⟩ : ∃ m, k = m + 2 := ⟨k - 2, by omega⟩
    rw [endonymref20_Compare.l0, if_pos (by omega), endonymref20_Compare.j1]
    by_cases h2 : Y.length ≤ i
    · rw [if_neg (by simp; omega), if_neg (by omega), if_pos (by omega), lf_rev_end Y i h2, lf_rev X i (by omega)]
      rfl
    · rw [if_pos (by simp; omega), wsub X.length i (by omega) hx, wsub Y.length i (by omega) hy, if_pos (by omega), if_pos (by omega), if_pos (by omega), if_pos (by omega)]
      rw [lf_rev X i (by omega), lf_rev Y i (by omega)]
      have mX : rdOf ByteArray.empty X ((X.length - 1 - i : Nat) : Int) ∈ X := by rw [rdOf_nat X _ (by omega)]; exact List.getElem_mem _
      have mY : rdOf ByteArray.empty Y ((Y.length - 1 - i : Nat) : Int) ∈ Y := by rw [rdOf_nat Y _ (by omega)]; exact List.getElem_mem _
      have sX := hX _ mX
      rw [RLabel_ok _ _ (by omega) (hY _ mY) k (by omega), Option.bind_some]
      conv => rhs; unfold lex
      by_cases e : cmpL (fold (bytesOf (rdOf ByteArray.empty X ((X.length - 1 - i : Nat) : Int)))) (fold (bytesOf (rdOf ByteArray.empty Y ((Y.length - 1 - i : Nat) : Int)))) = 0
      · rw [if_pos e, if_pos e]
        have := ih (i + 1) (by omega) (by omega) k (by omega)
        rw [show (((i + 1 : Nat) : Int) + 1) = (((i : Int) + 1) + 1) by omega] at this
        rw [w64 (by omega) (by omega), this]
      · rw [if_neg e, if_neg e]
theorem RCompare_ok (a b : ByteArray) (ha : a.size ≤ 4000000000) (hb : b.size ≤ 4000000000) (k : Nat) (hk : 4 * a.size + b.size + 20 ≤ k) : endonymref20_Compare.f k a b = some (cmpN (bytesOf a) (bytesOf b)) := by
  obtain ⟨X, hX, eX⟩ := RLabels_ok a ha
  obtain ⟨Y, hY, eY⟩ := RLabels_ok b hb
  obtain ⟨lX, sX⟩ := size_of_Ls eX
  obtain ⟨lY, sY⟩ := size_of_Ls eY
  unfold endonymref20_Compare.f
  rw [hX k (by omega), Option.bind_some, hY k (by omega), Option.bind_some]
  have := RCompare_loop X Y a.size (by omega) (by omega) (by omega) sX (fun x hx => by have := sY x hx; omega) X.length 0 (by omega) (by omega) k (by omega)
  rw [List.drop_zero, List.drop_zero, lf_eq eX, lf_eq eY] at this
  exact this
theorem RBelow_loop (X Y : List ByteArray) (S : Nat) (hl : Y.length ≤ X.length) (hx : X.length ≤ 4611686018427387000) (hS : S ≤ 4611686018427387000) (hX : ∀ x ∈ X, x.size ≤ S) (hY : ∀ x ∈ Y, x.size ≤ 4611686018427387000) : ∀ (n i : Nat), i + n = Y.length →
    ∀ k, n + 2 * S + 5 ≤ k → endonymref20_Below.l0 k X Y ((i : Int) + 1) = some (decide ((lf Y).reverse.drop i <+: (lf X).reverse.drop i)) := by
  intro n
  induction n with
  | zero =>
    intro i hi k hk
    obtain ⟨k, rfl⟩ : ∃ m, k = m + 1 := ⟨k - 1, by omega⟩
    rw [endonymref20_Below.l0, if_neg (by omega), lf_rev_end Y i (by omega)]
    simp
  | succ n ih =>
    intro i hi k hk
    obtain ⟨k, rfl⟩ : ∃ m, k = m + 1 := ⟨k - 1, by omega⟩
    rw [endonymref20_Below.l0, if_pos (by omega), wsub X.length i (by omega) hx, wsub Y.length i (by omega) (by omega), if_pos (by omega), if_pos (by omega), if_pos (by omega), if_pos (by omega)]
    rw [lf_rev X i (by omega), lf_rev Y i (by omega)]
    have mX : rdOf ByteArray.empty X ((X.length - 1 - i : Nat) : Int) ∈ X := by rw [rdOf_nat X _ (by omega)]; exact List.getElem_mem _
    have mY : rdOf ByteArray.empty Y ((Y.length - 1 - i : Nat) : Int) ∈ Y := by rw [rdOf_nat Y _ (by omega)]; exact List.getElem_mem _
    have sX := hX _ mX
    rw [RLabel_ok _ _ (by omega) (hY _ mY) k (by omega), Option.bind_some]
    by_cases e : cmpL (fold (bytesOf (rdOf ByteArray.empty X ((X.length - 1 - i : Nat) : Int)))) (fold (bytesOf (rdOf ByteArray.empty Y ((Y.length - 1 - i : Nat) : Int)))) = 0
    · rw [if_pos e]
      have := ih (i + 1) (by omega) k (by omega)
      rw [show (((i + 1 : Nat) : Int) + 1) = (((i : Int) + 1) + 1) by omega] at this
      rw [w64 (by omega) (by omega), this, (cmpL_is.eq _ _).1 e]
      congr 1
      rw [decide_eq_decide, List.cons_prefix_cons]
      simp
    · rw [if_neg e]
      have e2 := fun q => e ((cmpL_is.eq _ _).2 q)
      congr 1
      symm
      rw [decide_eq_false_iff_not, List.cons_prefix_cons]
      exact fun q => e2 q.1.symm
theorem RBelow_ok (a b : ByteArray) (ha : a.size ≤ 4000000000) (hb : b.size ≤ 4000000000) (k : Nat) (hk : 4 * a.size + 2 * b.size + 20 ≤ k) : endonymref20_Below.f k a b = some (isBelow (bytesOf a) (bytesOf b)) := by
  obtain ⟨X, hX, eX⟩ := RLabels_ok a ha
  obtain ⟨Y, hY, eY⟩ := RLabels_ok b hb
  obtain ⟨lX, sX⟩ := size_of_Ls eX
  obtain ⟨lY, sY⟩ := size_of_Ls eY
  unfold endonymref20_Below.f
  rw [hX k (by omega), Option.bind_some, hY k (by omega), Option.bind_some]
  unfold isBelow
  rw [← lf_eq eX, ← lf_eq eY]
  by_cases h : (X.length : Int) < (Y.length : Int)
  · rw [if_pos h]
    congr 1
    symm
    rw [decide_eq_false_iff_not]
    intro q
    have := q.length_le
    rw [List.length_reverse, List.length_reverse, lf_len, lf_len] at this
    omega
  · rw [if_neg h]
    have := RBelow_loop X Y a.size (by omega) (by omega) (by omega) sX (fun x hx => by have := sY x hx; omega) Y.length 0 (by omega) k (by omega)
    rw [List.drop_zero, List.drop_zero] at this
    exact this
theorem RJoin_loop (L : List ByteArray) (hL : L.length ≤ 4611686018427387000) : ∀ (n i : Nat) (x3 : ByteArray), i + n = L.length → 1 ≤ i → x3.size + (((L.map bytesOf).drop i).map (46 :: ·)).flatten.length ≤ 4611686018427387000 →
    ∃ r, (∀ k, n + 1 ≤ k → endonymref20_Join.l0 k L x3 (i : Int) = some r) ∧ bytesOf r = bytesOf x3 ++ (((L.map bytesOf).drop i).map (46 :: ·)).flatten := by
  intro n
  induction n with
  | zero =>
    intro i x3 hi h1 hb
    refine ⟨x3, fun k hk => ?_, ?_⟩
    · obtain ⟨k, rfl⟩ : ∃ m, k = m + 1 := ⟨k - 1, by omega⟩
      rw [endonymref20_Join.l0, if_neg (by omega)]
    · rw [List.drop_eq_nil_of_le (by rw [List.length_map]; omega)]
      simp
  | succ n ih =>
    intro i x3 hi h1 hb
    have hd : (L.map bytesOf).drop i = bytesOf (rdOf ByteArray.empty L (i : Int)) :: (L.map bytesOf).drop (i + 1) := by
      rw [rdOf_nat L i (by omega), List.drop_eq_getElem_cons (by rw [List.length_map]; omega), List.getElem_map]
    rw [hd] at hb ⊢
    simp only [List.map_cons, List.flatten_cons, List.length_append, List.length_cons, bytesOf_length] at hb
    have hsz : ((x3 ++ (⟨#[46]⟩ : ByteArray)) ++ rdOf ByteArray.empty L (i : Int)).size = x3.size + 1 + (rdOf ByteArray.empty L (i : Int)).size := by
      rw [ByteArray.size_append, ByteArray.size_append]; rfl
    have hsz1 : (x3 ++ (⟨#[46]⟩ : ByteArray)).size = x3.size + 1 := by
      rw [ByteArray.size_append]; rfl
    obtain ⟨r, h2, h3⟩ := ih (i + 1) ((x3 ++ (⟨#[46]⟩ : ByteArray)) ++ rdOf ByteArray.empty L (i : Int)) (by omega) (by omega) (by rw [hsz]; omega)
    refine ⟨r, fun k hk => ?_, ?_⟩
    · obtain ⟨k, rfl⟩ : ∃ m, k = m + 1 := ⟨k - 1, by omega⟩
      rw [endonymref20_Join.l0, if_pos (by omega), if_pos (by omega), if_pos (by omega), if_pos (by omega), if_pos (by rw [hsz1]; omega), wnat i (by omega), h2 k (by omega)]
    · rw [h3, bytesOf_append, bytesOf_append]
      simp [show bytesOf (⟨#[46]⟩ : ByteArray) = [46] from rfl]
theorem RJoin_ok (L : List ByteArray) (hL : L.length ≤ 4611686018427387000) (hb : (jn (L.map bytesOf)).length ≤ 4611686018427387000) :
    ∃ r, (∀ k, L.length + 1 ≤ k → endonymref20_Join.f k L = some r) ∧ bytesOf r = jn (L.map bytesOf) := by
  cases L with
  | nil =>
    refine ⟨⟨#[]⟩, fun k hk => ?_, rfl⟩
    obtain ⟨k, rfl⟩ : ∃ m, k = m + 1 := ⟨k - 1, by omega⟩
    unfold endonymref20_Join.f
    rw [endonymref20_Join.l0, if_neg (by simp)]
  | cons x r0 =>
    simp only [List.map_cons, jn, List.length_append, bytesOf_length] at hb
    have e0 : rdOf ByteArray.empty (x :: r0) 0 = x := rfl
    have hz : ((⟨#[]⟩ : ByteArray) ++ x).size = x.size := by rw [ByteArray.size_append]; show 0 + x.size = x.size; omega
    obtain ⟨r, h2, h3⟩ := RJoin_loop (x :: r0) hL r0.length 1 ((⟨#[]⟩ : ByteArray) ++ x) (by simp; omega) (Nat.le_refl _) (by rw [hz]; simpa using hb)
    refine ⟨r, fun k hk => ?_, ?_⟩
    · obtain ⟨k, rfl⟩ : ∃ m, k = m + 1 := ⟨k - 1, by omega⟩
      unfold endonymref20_Join.f
      rw [endonymref20_Join.l0, if_pos (by simp), if_neg (by decide), if_pos (by decide), e0, if_pos (by show 0 + x.size ≤ _; omega)]
      have := h2 k (by simp at hk; omega)
      rw [show wrap64 (0 + 1) = ((1 : Nat) : Int) from w64 (by omega) (by omega)]
      exact this
    · rw [h3, bytesOf_append]
      simp [jn, show bytesOf (⟨#[]⟩ : ByteArray) = [] from rfl]
theorem RParent_ok (a p : ByteArray) (ok : Bool) (ha : a.size ≤ 4000000000) (h : name_Parent.f a = some (p, ok)) : ∃ q : ByteArray, (∀ k, 2 * a.size + 20 ≤ k → endonymref20_Parent.f k a = some (q, ok)) ∧ q.toList = p.toList := by
  obtain ⟨p', hp, hps, hc⟩ := Parent_ok a ha
  rw [hp] at h
  injection h with h
  injection h with h1 h2
  subst h1
  subst h2
  obtain ⟨X, hX, eX⟩ := RLabels_ok a ha
  obtain ⟨lX, sX⟩ := size_of_Ls eX
  by_cases h0 : bytesOf a = []
  · have hX0 : X = [] := by
      rw [h0, Ls_nil] at eX
      exact List.map_eq_nil_iff.1 eX
    rcases hc with ⟨_, rfl⟩ | ⟨q, _⟩ | ⟨x, _, q⟩
    · refine ⟨⟨#[]⟩, fun k hk => ?_, rfl⟩
      unfold endonymref20_Parent.f
      rw [hX k (by omega), Option.bind_some, hX0, if_pos (by simp)]
      simp [h0]
    · exact absurd h0 q
    · rw [h0] at q; simp at q
  · have hc2 := hc.resolve_left (fun q => h0 q.1)
    have hXne : X ≠ [] := fun e => by
      rw [e] at eX
      exact h0 (Ls_zero.1 (by rw [← eX]; rfl))
    have hXl : 1 ≤ X.length := by
      cases X with
      | nil => exact absurd rfl hXne
      | cons _ _ => simp
    have ht : jn ((X.drop 1).map bytesOf) = bytesOf p' := by
      rw [List.map_drop, eX]
      rcases hc2 with ⟨_, rfl, h2⟩ | ⟨x, h1, h2⟩
      · unfold Ls
        rw [if_neg h0, labs_none _ h2]
        rfl
      · unfold Ls
        rw [if_neg h0, h2, labs_at x _ h1]
        exact jn_labs _
    obtain ⟨q, h1, h2⟩ := RJoin_ok (X.drop 1) (by rw [List.length_drop]; omega) (by rw [ht, bytesOf_length]; omega)
    refine ⟨q, fun k hk => ?_, ?_⟩
    · unfold endonymref20_Parent.f
      rw [hX k (by omega), Option.bind_some, if_neg (by omega), if_pos (by omega), h1 k (by rw [List.length_drop]; omega), Option.bind_some]
      simp [h0]
    · rw [bytesOf_toList, h2, ht]
theorem NameCompares_ok (a b : ByteArray) (ha : a.size ≤ 4000000000) (hb : b.size ≤ 4000000000) : ∃ k, endonymlaw20_NameCompares.f k a b = some true := by
  refine ⟨10 * (a.size + b.size) + 300, ?_⟩
  obtain ⟨p, hp, _, _⟩ := Parent_ok a ha
  obtain ⟨q, hq, e⟩ := RParent_ok a p _ ha hp
  unfold endonymlaw20_NameCompares.f
  rw [hp, Option.bind_some, hq _ (by omega), Option.bind_some, told20_ok _ (by omega), Option.bind_some, if_pos rfl, Compare_ok a b ha hb _ (by omega), Option.bind_some, RCompare_ok a b ha hb _ (by omega), Option.bind_some, if_pos rfl, Below_ok a b ha hb _ (by omega), Option.bind_some, RBelow_ok a b ha hb _ (by omega), Option.bind_some, if_pos (by simp), if_pos e.symm]
  simp
end Go.Proofs.YtfbadcjojkgibaaDoor.Plain
