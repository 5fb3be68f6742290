import Derived.Test.YtfbadcjojkgibaaDoorNameL3
import Derived.Lib.Join
import Derived.Test.YtfbadcjojkgibaaDoorNx7
import Derived.Test.YtfbadcjojkgibaaDoorNx8
import Derived.Test.YtfbadcjojkgibaaDoorNx11
/-! Packed names; NameBack. -/
namespace Go.Proofs.YtfbadcjojkgibaaDoor.Plain
open Go.RowKit Go.Proofs.YtfbadcjojkgibaaDoorW.PrintWords Go.Proofs.YtfbadcjojkgibaaDoorW.PrintLast Go.Proofs.YtfbadcjojkgibaaDoorW.PrintMore Go.Proofs.YtfbadcjojkgibaaDoor.N
set_option linter.unusedVariables false
set_option linter.unusedSimpArgs false
def enc (L : List (List Int)) : List Int := (L.map fun x => (x.length : Int) :: x).flatten
def okLen (x : List Int) : Prop := 1 ≤ x.length ∧ x.length ≤ 63
def goodL (R : List (List Int)) : Prop := ∀ x ∈ R, okLen x ∧ ∀ b ∈ x, b ≠ 46
theorem enc_cons (x : List Int) (R : List (List Int)) : enc (x :: R) = (x.length : Int) :: (x ++ enc R) := by simp [enc]
theorem enc_labs : ∀ l : List Int, (enc (labs l)).length = l.length + 1
  | [] => rfl
  | b :: l => by
    have ih := enc_labs l
    by_cases h : b = 46
    · subst h
      rw [labs_stop, enc_cons]
      simp [ih]
    · obtain ⟨x, r, e1, e2⟩ := labs_other h l
      rw [e1, enc_cons] at ih
      rw [e2, enc_cons]
      simp at ih ⊢
      omega
theorem labs_nodot : ∀ (l x : List Int), x ∈ labs l → ∀ b ∈ x, b ≠ 46
  | [], x, h => by simp [labs] at h; subst h; simp
  | b :: l, x, h => by
    have ih := labs_nodot l
    by_cases hb : b = 46
    · subst hb
      rw [labs_stop] at h
      rcases List.mem_cons.1 h with rfl | h
      · simp
      · exact ih x h
    · obtain ⟨y, r, e1, e2⟩ := labs_other hb l
      rw [e2] at h
      rw [e1] at ih
      rcases List.mem_cons.1 h with rfl | h
      · intro c hc
        rcases List.mem_cons.1 hc with rfl | hc
        · exact hb
        · exact ih y (by simp) c hc
      · exact ih x (by simp [h])
theorem labs_mem : ∀ (l x : List Int), x ∈ labs l → ∀ b ∈ x, b ∈ l
  | [], x, h => by simp [labs] at h; subst h; simp
  | b :: l, x, h => by
    have ih := labs_mem l
    by_cases hb : b = 46
    · subst hb
      rw [labs_stop] at h
      rcases List.mem_cons.1 h with rfl | h
      · simp
      · intro c hc; exact List.mem_cons_of_mem _ (ih x h c hc)
    · obtain ⟨y, r, e1, e2⟩ := labs_other hb l
      rw [e2] at h
      rw [e1] at ih
      rcases List.mem_cons.1 h with rfl | h
      · intro c hc
        rcases List.mem_cons.1 hc with rfl | hc
        · simp
        · exact List.mem_cons_of_mem _ (ih y (by simp) c hc)
      · intro c hc; exact List.mem_cons_of_mem _ (ih x (by simp [h]) c hc)
theorem labs_jn : ∀ (x : List Int) (R : List (List Int)), goodL (x :: R) → labs (jn (x :: R)) = x :: R
  | x, [], h => by
    simp only [jn, List.map_nil, List.flatten_nil, List.append_nil]
    exact labs_none x (h x (by simp)).2
  | x, y :: R, h => by
    have ih := labs_jn y R (fun z hz => h z (List.mem_cons_of_mem _ hz))
    have e : jn (x :: y :: R) = x ++ 46 :: jn (y :: R) := by simp [jn]
    rw [e, labs_at x _ (h x (by simp)).2, ih]
theorem Ls_jn (R : List (List Int)) (h : goodL R) : Ls (jn R) = R := by
  cases R with
  | nil => rfl
  | cons x R =>
    unfold Ls
    rw [if_neg, labs_jn x R h]
    intro e
    have h1 := (h x (by simp)).1.1
    simp only [jn, List.append_eq_nil_iff] at e
    rw [e.1] at h1
    simp at h1
theorem jn_Ls (s : List Int) : jn (Ls s) = s := by
  unfold Ls
  by_cases h : s = []
  · rw [if_pos h, h]; rfl
  · rw [if_neg h]; exact jn_labs s
theorem Pack_loop (a : ByteArray) (X : List ByteArray) (hX : X.length ≤ 4000000001) : ∀ (n i : Nat) (x4 : List Int), i + n = X.length → x4.length ≤ 64 * i →
    ∃ r, (∀ k, n + 1 ≤ k → name_Pack.l0 k a x4 X (X.length : Int) (i : Int) = some r) ∧
      ((∀ x ∈ (X.map bytesOf).drop i, okLen x) → a.size ≤ 253 → r = (x4 ++ enc ((X.map bytesOf).drop i) ++ [0], 0)) ∧ (r.2 = 0 → (∀ x ∈ (X.map bytesOf).drop i, okLen x) ∧ a.size ≤ 253) := by
  intro n
  induction n with
  | zero =>
    intro i x4 hi h4
    have hd : (X.map bytesOf).drop i = [] := List.drop_eq_nil_of_le (by rw [List.length_map]; omega)
    rw [hd]
    by_cases hs : (a.size : Int) > 253
    · refine ⟨([], 2), fun k hk => ?_, fun _ q => by omega, fun q => by simp at q⟩
      obtain ⟨k, rfl⟩ : ∃ m, k = m + 1 := ⟨k - 1, by omega⟩
      rw [name_Pack.l0, if_neg (by omega), if_pos hs]
    · refine ⟨(x4 ++ [0], 0), fun k hk => ?_, fun _ _ => by simp [enc], fun _ => ⟨by simp, by omega⟩⟩
      obtain ⟨k, rfl⟩ : ∃ m, k = m + 1 := ⟨k - 1, by omega⟩
      rw [name_Pack.l0, if_neg (by omega), if_neg hs, if_pos (by omega)]
  | succ n ih =>
    intro i x4 hi h4
    have hd : (X.map bytesOf).drop i = bytesOf (rdOf ByteArray.empty X (i : Int)) :: (X.map bytesOf).drop (i + 1) := by
      rw [rdOf_nat X i (by omega), List.drop_eq_getElem_cons (by rw [List.length_map]; omega), List.getElem_map]
    rw [hd]
    generalize hx : rdOf ByteArray.empty X (i : Int) = x at *
    by_cases h1 : (x.size : Int) < 1
    · refine ⟨([], 200), fun k hk => ?_, fun q _ => ?_, fun q => by simp at q⟩
      · obtain ⟨k, rfl⟩ : ∃ m, k = m + 1 := ⟨k - 1, by omega⟩
        rw [name_Pack.l0, if_pos (by omega), if_pos (by omega), if_pos (by omega), hx, if_pos h1]
      · have := (q (bytesOf x) (by simp)).1
        rw [bytesOf_length] at this
        omega
    · by_cases h2 : (x.size : Int) > 63
      · refine ⟨([], 200), fun k hk => ?_, fun q _ => ?_, fun q => by simp at q⟩
        · obtain ⟨k, rfl⟩ : ∃ m, k = m + 1 := ⟨k - 1, by omega⟩
          rw [name_Pack.l0, if_pos (by omega), if_pos (by omega), if_pos (by omega), hx, if_neg h1, if_pos h2]
        · have := (q (bytesOf x) (by simp)).2
          rw [bytesOf_length] at this
          omega
      · obtain ⟨r, g1, g2, g3⟩ := ih (i + 1) (x4 ++ [((x.size : Int)) % 256] ++ bytesOf x) (by omega) (by simp [bytesOf_length]; omega)
        have e256 : ((x.size : Int)) % 256 = (x.size : Int) := by omega
        refine ⟨r, fun k hk => ?_, fun q1 q2 => ?_, fun q => ?_⟩
        · obtain ⟨k, rfl⟩ : ∃ m, k = m + 1 := ⟨k - 1, by omega⟩
          rw [name_Pack.l0, if_pos (by omega), if_pos (by omega), if_pos (by omega), hx, if_neg h1, if_neg h2, if_pos (by omega), Option.bind_some, if_pos (by simp; omega), wnat i (by omega), g1 k (by omega)]
        · rw [g2 (fun y hy => q1 y (List.mem_cons_of_mem _ hy)) q2, enc_cons, e256, bytesOf_length]
          simp
        · obtain ⟨p1, p2⟩ := g3 q
          refine ⟨fun y hy => ?_, p2⟩
          rcases List.mem_cons.1 hy with rfl | hy
          · unfold okLen; rw [bytesOf_length]; omega
          · exact p1 y hy
/-- Pack. -/
theorem Pack_ok (a : ByteArray) (ha : a.size ≤ 4000000000) : ∃ r, (∀ k, a.size + 3 ≤ k → name_Pack.f k a = some r) ∧
    ((∀ x ∈ Ls (bytesOf a), okLen x) → a.size ≤ 253 → r = (enc (Ls (bytesOf a)) ++ [0], 0)) ∧ (r.2 = 0 → (∀ x ∈ Ls (bytesOf a), okLen x) ∧ a.size ≤ 253) := by
  obtain ⟨X, hX, eX⟩ := Labels_ok a ha
  obtain ⟨lX, sX⟩ := size_of_Ls eX
  obtain ⟨r, g1, g2, g3⟩ := Pack_loop a X (by omega) X.length 0 [] (by omega) (by simp)
  rw [List.drop_zero, eX] at g2 g3
  refine ⟨r, fun k hk => ?_, fun q1 q2 => ?_, g3⟩
  · unfold name_Pack.f
    rw [hX, Option.bind_some]
    exact g1 k (by omega)
  · rw [g2 q1 q2]; simp
/-! Unpack -/
theorem join_ints : ∀ L : List (List UInt8), ints (Lib.join L [46]) = jn (L.map ints)
  | [] => rfl
  | x :: r => by
    rw [Lib.join_cons]
    simp only [jn, Lib.joinTail, ints, List.map_append, List.map_cons, List.map_flatten, List.map_map]
    congr 1
theorem jn_len : ∀ L : List (List Int), (jn L).length ≤ (L.map List.length).sum + L.length
  | [] => by simp [jn]
  | x :: r => by
    have : ((r.map (46 :: ·)).flatten).length = (r.map List.length).sum + r.length := by
      clear x
      induction r with
      | nil => rfl
      | cons y r ih => simp at ih ⊢; omega
    simp only [jn, List.length_append, List.map_cons, List.sum_cons, List.length_cons, this]
    omega
theorem Join_ok (L : List ByteArray) (h : (L.map fun x => (bytesOf x).length).sum + L.length ≤ 4000000000) : ∃ t, strings_Join.f L ⟨#[46]⟩ = some t ∧ bytesOf t = jn (L.map bytesOf) := by
  have e : ints (Lib.join (L.map (·.data.toList)) [46]) = jn (L.map bytesOf) := by
    rw [join_ints, List.map_map]; rfl
  have hl : (Lib.join (L.map (·.data.toList)) [46]).length = (jn (L.map bytesOf)).length := by rw [← e]; simp [ints]
  have hb := jn_len (L.map bytesOf)
  rw [List.map_map, List.length_map] at hb
  have hs : (L.map (List.length ∘ bytesOf)).sum = (L.map fun x => (bytesOf x).length).sum := rfl
  refine ⟨⟨(Lib.join (L.map (·.data.toList)) [46]).toArray⟩, ?_, ?_⟩
  · unfold strings_Join.f
    rw [if_pos ⟨by omega, by rw [show (⟨#[46]⟩ : ByteArray).data.toList = [46] from rfl, hl]; omega⟩]
  · rw [← e]; simp [bytesOf, ints]
theorem chunk (l : List Int) (i v : Nat) (h : i + v ≤ l.length) : l.drop i = (l.take (i + v)).drop i ++ l.drop (i + v) := drop_split l i (i + v) (by omega) h
theorem chunk_len (l : List Int) (i v : Nat) (h : i + v ≤ l.length) : ((l.take (i + v)).drop i).length = v := by rw [List.length_drop, List.length_take]; omega
theorem bytes_take {l : List Int} (hb : ∀ x ∈ l, 0 ≤ x ∧ x ≤ 255) (i j : Nat) : ∀ x ∈ (l.take j).drop i, 0 ≤ x ∧ x ≤ 255 := fun x hx => hb x (List.mem_of_mem_take (List.mem_of_mem_drop hx))
theorem index_dot (xs : List Int) (hb : ∀ x ∈ xs, 0 ≤ x ∧ x ≤ 255) : ∃ t, strings_IndexByte.f (strOfNums xs) 46 = some t ∧ (t ≥ 0 ↔ ∃ b ∈ xs, b = 46) := by
  have e46 : (46 : Int).toNat.toUInt8 = 46 := rfl
  refine ⟨Lib.indexByte (strOfNums xs).data.toList 46, by unfold strings_IndexByte.f; rw [e46], ?_⟩
  have hx := bytesOf_strOfNums xs hb
  rw [bytesOf_eq] at hx
  have hge := Lib.indexByte_ge (strOfNums xs).data.toList 46
  constructor
  · intro h
    obtain ⟨o, ho⟩ : ∃ o : Nat, Lib.indexByte (strOfNums xs).data.toList 46 = o := ⟨(Lib.indexByte (strOfNums xs).data.toList 46).toNat, by omega⟩
    obtain ⟨h1, _⟩ := Lib.indexByte_some ho
    refine ⟨46, ?_, rfl⟩
    rw [← hx]
    exact List.mem_map.2 ⟨46, List.mem_of_getElem? h1, rfl⟩
  · rintro ⟨b, hb1, rfl⟩
    by_cases hn : Lib.indexByte (strOfNums xs).data.toList 46 = -1
    · have hno := Lib.indexByte_none hn
      rw [← hx] at hb1
      obtain ⟨c, hc, he⟩ := List.mem_map.1 hb1
      obtain ⟨i, hi⟩ := List.getElem?_of_mem hc
      exact absurd (((ints_46 c).1 he) ▸ hi) (hno i)
    · omega
theorem acc_sum (acc : List ByteArray) (s : ByteArray) (i v : Nat) (hs : (bytesOf s).length = v) (hacc : (acc.map fun x => (bytesOf x).length).sum + acc.length ≤ i) :
    ((acc ++ [s]).map fun x => (bytesOf x).length).sum + (acc ++ [s]).length ≤ i + 1 + v := by
  rw [List.map_append, List.sum_append, List.length_append]
  simp only [List.map_cons, List.map_nil, List.sum_cons, List.sum_nil, hs, List.length_cons, List.length_nil]
  omega
theorem Unpack_step (l : List Int) (i v : Nat) (acc : List ByteArray) (C : List Int) (t : Int) (k : Nat) (hl : l.length ≤ 4000000000) (hal : acc.length ≤ 4000000000) (hv2 : rd l (i : Int) = (v : Int)) (h1 : 1 ≤ v) (h2 : v ≤ 63) (hfit : i + 1 + v ≤ l.length)
    (hC : (l.take (i + 1 + v)).drop (i + 1) = C) (ht : strings_IndexByte.f (strOfNums C) 46 = some t) :
    name_Unpack.l0 (k + 1) l (i : Int) acc = if t ≥ 0 then some (⟨#[]⟩, 0, 200) else name_Unpack.l0 k l ((i + 1 + v : Nat) : Int) (acc ++ [strOfNums C]) := by
  have wv : wrap64 ((v : Nat) : Int) = (v : Int) := w64 (by omega) (by omega)
  have wl : wrap64 ((l.length : Int) - ((i + 1 : Nat) : Int)) = (l.length : Int) - ((i + 1 : Nat) : Int) := w64 (by omega) (by omega)
  have w2 : wrap64 (((i + 1 : Nat) : Int) + (v : Int)) = ((i + 1 + v : Nat) : Int) := by rw [w64 (by omega) (by omega)]; omega
  have hal2 : acc.length < 8796093022208 := Nat.lt_of_le_of_lt hal (by decide)
  have g1 : ¬ (v : Int) > (l.length : Int) - ((i + 1 : Nat) : Int) := by omega
  have g2 : ¬ (v : Int) = 0 := by omega
  have g3 : ¬ (v : Int) > 63 := by omega
  have g4 : ¬ (i : Int) = (l.length : Int) := by omega
  have g5 : (i : Int) < (l.length : Int) := by omega
  have g6 : (0 : Int) ≤ ((i + 1 : Nat) : Int) := by omega
  have g7 : ((i + 1 : Nat) : Int) ≤ ((i + 1 + v : Nat) : Int) := by omega
  have g8 : ((i + 1 + v : Nat) : Int) ≤ (l.length : Int) := by omega
  rw [name_Unpack.l0, if_neg g4, if_pos (Int.natCast_nonneg i), if_pos g5, hv2, wv, if_neg g2, if_neg g3, wnat i (by omega), wl, if_neg g1, if_pos g6, w2, if_pos g7, if_pos g8, Int.toNat_natCast, Int.toNat_natCast, hC, ht, Option.bind_some, if_pos hal2]
theorem Unpack_loop (l : List Int) (hl : l.length ≤ 4000000000) (hb : ∀ x ∈ l, 0 ≤ x ∧ x ≤ 255) : ∀ (n i : Nat) (acc : List ByteArray), i + n = l.length → (acc.map fun x => (bytesOf x).length).sum + acc.length ≤ i →
    ∃ res, (∀ k, n + 2 ≤ k → name_Unpack.l0 k l (i : Int) acc = some res) ∧
      (res.2.2 = 0 → ∃ R p, goodL R ∧ l.drop i = enc R ++ 0 :: l.drop p ∧ p = i + (enc R).length + 1 ∧ p ≤ l.length ∧ res.2.1 = (p : Int) ∧ bytesOf res.1 = jn (acc.map bytesOf ++ R) ∧ res.1.size ≤ 253) ∧
      (∀ R rest, goodL R → l.drop i = enc R ++ 0 :: rest → (jn (acc.map bytesOf ++ R)).length ≤ 253 → res.2.1 = ((i + (enc R).length + 1 : Nat) : Int) ∧ res.2.2 = 0 ∧ bytesOf res.1 = jn (acc.map bytesOf ++ R)) := by
  intro n
  induction n using Nat.strongRecOn with
  | _ n ih =>
    intro i acc hi hacc
    have hi9 : i ≤ 4000000000 := by clear hacc ih hb; omega
    have hal : acc.length ≤ 4000000000 := Nat.le_trans (Nat.le_trans (Nat.le_add_left _ _) hacc) hi9
    by_cases h0 : n = 0
    · refine ⟨(⟨#[]⟩, 0, 10), fun k hk => ?_, fun q => by simp at q, fun R rest _ e _ => ?_⟩
      · obtain ⟨k, rfl⟩ : ∃ m, k = m + 1 := ⟨k - 1, by omega⟩
        rw [name_Unpack.l0, if_pos (by omega)]
      · rw [List.drop_eq_nil_of_le (by omega)] at e
        have := congrArg List.length e
        simp at this
    · have hd := drop_rd l i (by omega)
      have hm : rd l (i : Int) ∈ l := by rw [rd_nat l i (by omega)]; exact List.getElem_mem _
      have hv := hb _ hm
      obtain ⟨v, hv2⟩ : ∃ v : Nat, rd l (i : Int) = v := ⟨(rd l (i : Int)).toNat, by omega⟩
      rw [hv2] at hd hv
      have wv : wrap64 ((v : Nat) : Int) = (v : Int) := w64 (by omega) (by omega)
      have hhead : ∀ R rest, goodL R → l.drop i = enc R ++ 0 :: rest → (R = [] ∧ v = 0) ∨ ∃ x R', R = x :: R' ∧ v = x.length ∧ l.drop (i + 1) = x ++ (enc R' ++ 0 :: rest) := by
        intro R rest hg e
        rw [hd] at e
        cases R with
        | nil =>
          simp [enc] at e
          exact Or.inl ⟨rfl, by omega⟩
        | cons x R' =>
          rw [enc_cons] at e
          simp only [List.cons_append, List.cons.injEq] at e
          exact Or.inr ⟨x, R', rfl, by omega, by rw [e.2, List.append_assoc]⟩
      by_cases hv0 : v = 0
      · obtain ⟨t, ht, hj⟩ := Join_ok acc (by omega)
        by_cases hsz : (t.size : Int) > 253
        · refine ⟨(⟨#[]⟩, 0, 2), fun k hk => ?_, fun q => by simp at q, fun R rest hg e hlen => ?_⟩
          · obtain ⟨k, rfl⟩ : ∃ m, k = m + 1 := ⟨k - 1, by omega⟩
            rw [name_Unpack.l0, if_neg (by omega), if_pos (by omega), if_pos (by omega), hv2, wv, if_pos (by omega), ht, Option.bind_some, if_pos hsz]
          · rcases hhead R rest hg e with ⟨rfl, _⟩ | ⟨x, R', rfl, hx, _⟩
            · rw [List.append_nil, ← hj, bytesOf_length] at hlen
              omega
            · have := (hg x (by simp)).1.1
              omega
        · refine ⟨(t, ((i + 1 : Nat) : Int), 0), fun k hk => ?_, fun _ => ⟨[], i + 1, by simp [goodL], ?_, by simp [enc], by omega, rfl, by rw [List.append_nil]; exact hj, by show t.size ≤ 253; omega⟩, fun R rest hg e hlen => ?_⟩
          · obtain ⟨k, rfl⟩ : ∃ m, k = m + 1 := ⟨k - 1, by omega⟩
            rw [name_Unpack.l0, if_neg (by omega), if_pos (by omega), if_pos (by omega), hv2, wv, if_pos (by omega), ht, Option.bind_some, if_neg hsz, wnat i (by omega)]
          · rw [hd, hv0]; rfl
          · rcases hhead R rest hg e with ⟨rfl, _⟩ | ⟨x, R', rfl, hx, _⟩
            · exact ⟨by simp [enc], rfl, by rw [List.append_nil]; exact hj⟩
            · have := (hg x (by simp)).1.1
              omega
      · by_cases hv63 : (v : Int) > 63
        · refine ⟨(⟨#[]⟩, 0, 200), fun k hk => ?_, fun q => by simp at q, fun R rest hg e _ => ?_⟩
          · obtain ⟨k, rfl⟩ : ∃ m, k = m + 1 := ⟨k - 1, by omega⟩
            rw [name_Unpack.l0, if_neg (by omega), if_pos (by omega), if_pos (by omega), hv2, wv, if_neg (by omega), if_pos hv63]
          · rcases hhead R rest hg e with ⟨rfl, q⟩ | ⟨x, R', rfl, hx, _⟩
            · omega
            · have := (hg x (by simp)).1.2
              omega
        · have wl : wrap64 ((l.length : Int) - ((i + 1 : Nat) : Int)) = (l.length : Int) - ((i + 1 : Nat) : Int) := w64 (by omega) (by omega)
          by_cases hlong : (v : Int) > (l.length : Int) - ((i + 1 : Nat) : Int)
          · refine ⟨(⟨#[]⟩, 0, 10), fun k hk => ?_, fun q => by simp at q, fun R rest hg e _ => ?_⟩
            · obtain ⟨k, rfl⟩ : ∃ m, k = m + 1 := ⟨k - 1, by omega⟩
              rw [name_Unpack.l0, if_neg (by omega), if_pos (by omega), if_pos (by omega), hv2, wv, if_neg (by omega), if_neg hv63, wnat i (by omega), wl, if_pos hlong]
            · rcases hhead R rest hg e with ⟨rfl, q⟩ | ⟨x, R', rfl, hx, q⟩
              · omega
              · have := congrArg List.length q
                simp at this
                omega
          · have hfit : i + 1 + v ≤ l.length := by omega
            have hv1 : 1 ≤ v := by omega
            have hv3 : v ≤ 63 := by omega
            have hn2 : n - 1 - v < n := by omega
            have hn3 : i + 1 + v + (n - 1 - v) = l.length := by omega
            have hc := chunk l (i + 1) v hfit
            have hcl := chunk_len l (i + 1) v hfit
            have hcb := bytes_take hb (i + 1) (i + 1 + v)
            generalize hC : (l.take (i + 1 + v)).drop (i + 1) = C at hc hcl hcb
            obtain ⟨t, ht, hdot⟩ := index_dot C hcb
            have w2 : wrap64 (((i + 1 : Nat) : Int) + (v : Int)) = ((i + 1 + v : Nat) : Int) := by rw [w64 (by omega) (by omega)]; omega
            have walk : ∀ k, name_Unpack.l0 (k + 1) l (i : Int) acc = if t ≥ 0 then some (⟨#[]⟩, 0, 200) else name_Unpack.l0 k l ((i + 1 + v : Nat) : Int) (acc ++ [strOfNums C]) := fun k =>
              Unpack_step l i v acc C t k hl hal hv2 hv1 hv3 hfit hC ht
            have hxC : ∀ R rest, goodL R → l.drop i = enc R ++ 0 :: rest → ∃ R', R = C :: R' ∧ l.drop (i + 1 + v) = enc R' ++ 0 :: rest := by
              intro R rest hg e
              rcases hhead R rest hg e with ⟨rfl, q⟩ | ⟨x, R', rfl, hx, q⟩
              · omega
              · rw [hc] at q
                have q2 := List.append_inj q (by rw [hcl, hx])
                exact ⟨R', by rw [q2.1], q2.2⟩
            by_cases hdt : t ≥ 0
            · refine ⟨(⟨#[]⟩, 0, 200), fun k hk => ?_, fun q => by simp at q, fun R rest hg e _ => ?_⟩
              · obtain ⟨k, rfl⟩ : ∃ m, k = m + 1 := ⟨k - 1, by omega⟩
                rw [walk, if_pos hdt]
              · obtain ⟨R', rfl, _⟩ := hxC R rest hg e
                obtain ⟨b, hb1, hb2⟩ := hdot.1 hdt
                exact absurd hb2 ((hg C (by simp)).2 b hb1)
            · have hCn : ∀ b ∈ C, b ≠ 46 := fun b hb1 hb2 => hdt (hdot.2 ⟨b, hb1, hb2⟩)
              have hbs : bytesOf (strOfNums C) = C := bytesOf_strOfNums C hcb
              obtain ⟨res, g1, g2, g3⟩ := ih (n - 1 - v) hn2 (i + 1 + v) (acc ++ [strOfNums C]) hn3 (acc_sum acc (strOfNums C) i v (by rw [hbs]; exact hcl) hacc)
              have hmap : ∀ R' : List (List Int), (acc ++ [strOfNums C]).map bytesOf ++ R' = acc.map bytesOf ++ C :: R' := by
                intro R'
                rw [List.map_append]
                simp [hbs]
              refine ⟨res, fun k hk => ?_, fun q => ?_, fun R rest hg e hlen => ?_⟩
              · obtain ⟨k, rfl⟩ : ∃ m, k = m + 1 := ⟨k - 1, by omega⟩
                rw [walk, if_neg hdt, g1 k (by omega)]
              · obtain ⟨R', p, p1, p2, p3, p4, p5, p6, p7⟩ := g2 q
                refine ⟨C :: R', p, ?_, ?_, ?_, p4, p5, by rw [p6, hmap], p7⟩
                · intro x hx
                  rcases List.mem_cons.1 hx with rfl | hx
                  · exact ⟨⟨by omega, by omega⟩, hCn⟩
                  · exact p1 x hx
                · rw [hd, hc, p2, enc_cons, hcl]
                  simp
                · rw [p3, enc_cons]
                  simp [hcl]
                  omega
              · obtain ⟨R', rfl, e2⟩ := hxC R rest hg e
                obtain ⟨p1, p2, p3⟩ := g3 R' rest (fun x hx => hg x (List.mem_cons_of_mem _ hx)) e2 (by rw [hmap]; exact hlen)
                refine ⟨?_, p2, by rw [p3, hmap]⟩
                rw [p1, enc_cons]
                simp [hcl]
                omega
theorem Unpack_in (l : List Int) (hl : l.length ≤ 4000000000) (hb : ∀ x ∈ l, 0 ≤ x ∧ x ≤ 255) (i : Nat) (hi : i ≤ l.length) :
    ∃ res, (∀ k, l.length + 4 ≤ k → name_Unpack.f k l (i : Int) = some res) ∧
      (res.2.2 = 0 → ∃ R p, goodL R ∧ l.drop i = enc R ++ 0 :: l.drop p ∧ p = i + (enc R).length + 1 ∧ p ≤ l.length ∧ res.2.1 = (p : Int) ∧ bytesOf res.1 = jn R ∧ res.1.size ≤ 253) ∧
      (∀ R rest, goodL R → l.drop i = enc R ++ 0 :: rest → (jn R).length ≤ 253 → res.2.1 = ((i + (enc R).length + 1 : Nat) : Int) ∧ res.2.2 = 0 ∧ bytesOf res.1 = jn R) := by
  obtain ⟨res, g1, g2, g3⟩ := Unpack_loop l hl hb (l.length - i) i [] (by omega) (by simp)
  refine ⟨res, fun k hk => ?_, g2, g3⟩
  obtain ⟨k, rfl⟩ : ∃ m, k = m + 1 := ⟨k - 1, by omega⟩
  unfold name_Unpack.f
  rw [if_neg (by omega), name_Unpack.j0, if_neg (by simp; omega), g1 k (by omega)]
theorem Unpack_out (l : List Int) (at_ : Int) (h : at_ < 0 ∨ (l.length : Int) < at_) (k : Nat) (hk : 4 ≤ k) : name_Unpack.f k l at_ = some (⟨#[]⟩, 0, 1) := by
  obtain ⟨k, rfl⟩ : ∃ m, k = m + 1 := ⟨k - 1, by omega⟩
  unfold name_Unpack.f
  by_cases h1 : at_ < 0
  · rw [if_pos h1, name_Unpack.j0, if_pos rfl]
  · rw [if_neg h1, name_Unpack.j0, if_pos (by simp; omega)]
theorem goodL_Ls (s : List Int) (h : ∀ x ∈ Ls s, okLen x) : goodL (Ls s) := by
  intro x hx
  refine ⟨h x hx, ?_⟩
  unfold Ls at hx
  split at hx
  · simp at hx
  · exact labs_nodot s x hx
theorem Back_j0 (k : Nat) (l1 : List Int) (a2 : Int) (hl : l1.length ≤ 1000000000) (hb : ∀ x ∈ l1, 0 ≤ x ∧ x ≤ 255) (hk : l1.length + 400 ≤ k) : endonymlaw20_NameBack.j0 k l1 a2 = some true := by
  obtain ⟨k, rfl⟩ : ∃ m, k = m + 1 := ⟨k - 1, by omega⟩
  rw [endonymlaw20_NameBack.j0]
  by_cases hout : a2 < 0 ∨ (l1.length : Int) < a2
  · rw [Unpack_out l1 a2 hout k (by omega), Option.bind_some, if_neg (by simp), told20_ok k (by omega)]
    rfl
  · obtain ⟨i, rfl⟩ : ∃ i : Nat, a2 = i := ⟨a2.toNat, by omega⟩
    obtain ⟨⟨t, p, e⟩, g1, g2, g3⟩ := Unpack_in l1 (by omega) hb i (by omega)
    rw [g1 k (by omega), Option.bind_some]
    by_cases he : e = 0
    · subst he
      obtain ⟨R, q, r1, r2, r3, r4, r5, r6, r7⟩ := g2 rfl
      simp only at r5 r6 r7
      subst r5
      obtain ⟨⟨y, f⟩, h1, h2, h3⟩ := Pack_ok t (by omega)
      have eR : Ls (bytesOf t) = R := by rw [r6]; exact Ls_jn R r1
      rw [eR] at h2 h3
      have hy := h2 (fun x hx => (r1 x hx).1) r7
      rw [hy] at h1
      have hcut : (l1.take q).drop i = enc R ++ [0] := by
        rw [List.drop_take, r2]
        have : q - i = (enc R ++ [0]).length := by simp; omega
        rw [this, show enc R ++ 0 :: l1.drop q = (enc R ++ [0]) ++ l1.drop q by simp, List.take_left']
        rfl
      rw [if_pos rfl, h1 k (by omega), Option.bind_some, told20_ok k (by omega), Option.bind_some, if_pos rfl, if_pos rfl, if_pos (by omega), if_pos (by simp only; omega), if_pos (by simp only; omega), if_pos (by omega), if_pos (by simp only; omega), Int.toNat_natCast]
      simp only [Int.toNat_natCast]
      rw [hcut]
      simp
    · rw [if_neg he, told20_ok k (by omega)]
      rfl
theorem enc_bytes (L : List (List Int)) (h : ∀ x ∈ L, okLen x) (hb : ∀ x ∈ L, ∀ b ∈ x, 0 ≤ b ∧ b ≤ 255) : ∀ b ∈ enc L, 0 ≤ b ∧ b ≤ 255 := by
  induction L with
  | nil => simp [enc]
  | cons x L ih =>
    intro b hbm
    rw [enc_cons] at hbm
    rcases List.mem_cons.1 hbm with rfl | hbm
    · have := (h x (by simp)).2
      omega
    · rcases List.mem_append.1 hbm with hbm | hbm
      · exact hb x (by simp) b hbm
      · exact ih (fun y hy => h y (by simp [hy])) (fun y hy => hb y (by simp [hy])) b hbm
theorem NameBack_ok (a : ByteArray) (l1 : List Int) (a2 : Int) (l3 l4 : List Int) (ha : a.size ≤ 1000000000) (h1 : l1.length ≤ 1000000000) (h3 : l3.length ≤ 1000000000) (h4 : l4.length ≤ 1000000000)
    (b1 : ∀ x ∈ l1, 0 ≤ x ∧ x ≤ 255) (b3 : ∀ x ∈ l3, 0 ≤ x ∧ x ≤ 255) (b4 : ∀ x ∈ l4, 0 ≤ x ∧ x ≤ 255) : ∃ k, endonymlaw20_NameBack.f k a l1 a2 l3 l4 = some true := by
  refine ⟨a.size + l1.length + l3.length + l4.length + 1000, ?_⟩
  have hj := Back_j0 (a.size + l1.length + l3.length + l4.length + 1000) l1 a2 h1 b1 (by omega)
  generalize hK : a.size + l1.length + l3.length + l4.length + 1000 = k at *
  obtain ⟨⟨x, e⟩, p1, p2, p3⟩ := Pack_ok a (by omega)
  unfold endonymlaw20_NameBack.f
  rw [p1 k (by omega), Option.bind_some]
  by_cases he : e = 0
  · subst he
    obtain ⟨q1, q2⟩ := p3 rfl
    have hx := p2 q1 q2
    injection hx with hx _
    subst hx
    have hlen : (enc (Ls (bytesOf a))).length ≤ 254 := by
      by_cases h : bytesOf a = []
      · rw [h]; simp [Ls, enc]
      · unfold Ls
        rw [if_neg h, enc_labs, bytesOf_length]
        omega
    have hb5 : ∀ b ∈ (l3 ++ (enc (Ls (bytesOf a)) ++ [0])) ++ l4, 0 ≤ b ∧ b ≤ 255 := by
      intro b hb
      rcases List.mem_append.1 hb with hb | hb
      · rcases List.mem_append.1 hb with hb | hb
        · exact b3 b hb
        · rcases List.mem_append.1 hb with hb | hb
          · refine enc_bytes _ q1 (fun y hy c hc => byte_mem a c ?_) b hb
            unfold Ls at hy
            split at hy
            · simp at hy
            · exact labs_mem _ y hy c hc
          · rw [List.mem_singleton] at hb; omega
      · exact b4 b hb
    have hlall : ((l3 ++ (enc (Ls (bytesOf a)) ++ [0])) ++ l4).length = l3.length + ((enc (Ls (bytesOf a))).length + 1) + l4.length := by simp; omega
    obtain ⟨⟨t, p, f⟩, g1, _, g3⟩ := Unpack_in ((l3 ++ (enc (Ls (bytesOf a)) ++ [0])) ++ l4) (by rw [hlall]; omega) hb5 l3.length (by rw [hlall]; omega)
    obtain ⟨r1, r2, r3⟩ := g3 (Ls (bytesOf a)) l4 (goodL_Ls _ q1) (by simp) (by rw [jn_Ls, bytesOf_length]; exact q2)
    simp only at r1 r2 r3
    subst r1
    subst r2
    rw [jn_Ls] at r3
    have hxl : (enc (Ls (bytesOf a)) ++ [0]).length = (enc (Ls (bytesOf a))).length + 1 := by simp
    have w : wrap64 ((l3.length : Int) + ((enc (Ls (bytesOf a)) ++ [0]).length : Int)) = ((l3.length + (enc (Ls (bytesOf a))).length + 1 : Nat) : Int) := by
      rw [hxl, w64 (by omega) (by omega)]; omega
    rw [if_pos rfl, if_pos (by simp; omega), Option.bind_some, List.nil_append, if_pos (by rw [hxl]; omega), Option.bind_some, if_pos (by simp; omega), g1 k (by rw [hlall]; omega), Option.bind_some, if_pos rfl, if_pos (bytesOf_toList.2 r3), if_pos w.symm, if_neg (by rw [hxl]; omega), if_neg (by rw [hxl]; omega)]
    exact hj
  · rw [if_neg he]
    exact hj
end Go.Proofs.YtfbadcjojkgibaaDoor.Plain
