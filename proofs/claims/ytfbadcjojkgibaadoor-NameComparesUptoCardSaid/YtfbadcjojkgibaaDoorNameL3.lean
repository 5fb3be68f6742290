import Derived.Test.YtfbadcjojkgibaaDoorNameL2
import Derived.Lib.IndexLaws
import Derived.Test.YtfbadcjojkgibaaDoorNx8
import Derived.Test.YtfbadcjojkgibaaDoorNx9
import Derived.Test.YtfbadcjojkgibaaDoorNx12
import Derived.Test.YtfbadcjojkgibaaDoorNx13
/-! The parent; NameUp, NameOrder, NameLies. -/
namespace Go.Proofs.YtfbadcjojkgibaaDoor.Plain
open Go.RowKit Go.Proofs.YtfbadcjojkgibaaDoorW.PrintWords Go.Proofs.YtfbadcjojkgibaaDoorW.PrintLast Go.Proofs.YtfbadcjojkgibaaDoorW.PrintMore Go.Proofs.YtfbadcjojkgibaaDoor.N
set_option linter.unusedVariables false
set_option linter.unusedSimpArgs false
theorem told20_ok (k : Nat) (hk : 60 ≤ k) : endonymlaw20_told.f k = some true := at_rounds endonymlaw20_told.mono hk (by decide +kernel)
theorem Ls_nil : Ls [] = [] := rfl
theorem Ls_zero {s : List Int} : (Ls s).length = 0 ↔ s = [] := by
  unfold Ls
  by_cases h : s = []
  · simp [h]
  · rw [if_neg h]
    have := labs_ne s
    simp [h, this]
/-- The parent: what is behind the first full stop. -/
theorem Parent_ok (a : ByteArray) (ha : a.size ≤ 4000000000) : ∃ p : ByteArray, name_Parent.f a = some (p, decide (bytesOf a ≠ [])) ∧ p.size ≤ a.size ∧
    ((bytesOf a = [] ∧ p = ⟨#[]⟩) ∨ (bytesOf a ≠ [] ∧ p = ⟨#[]⟩ ∧ ∀ b ∈ bytesOf a, b ≠ 46) ∨ ∃ x, (∀ b ∈ x, b ≠ 46) ∧ bytesOf a = x ++ 46 :: bytesOf p) := by
  unfold name_Parent.f
  by_cases h : bytesOf a = []
  · rw [if_pos ((toList_nil a).2 h)]
    exact ⟨_, by simp [h], Nat.zero_le _, Or.inl ⟨h, rfl⟩⟩
  · rw [if_neg (fun e => h ((toList_nil a).1 e))]
    have hd : decide (bytesOf a ≠ []) = true := decide_eq_true h
    rw [hd]
    unfold strings_IndexByte.f
    rw [Option.bind_some]
    have e46 : (46 : Int).toNat.toUInt8 = 46 := rfl
    rw [e46]
    have hge := Lib.indexByte_ge a.data.toList 46
    by_cases hn : Lib.indexByte a.data.toList 46 < 0
    · rw [if_pos hn]
      refine ⟨_, rfl, Nat.zero_le _, Or.inr (Or.inl ⟨h, rfl, ?_⟩)⟩
      intro b hb
      have hno := Lib.indexByte_none (l := a.data.toList) (c := 46) (by omega)
      rw [bytesOf_eq] at hb
      obtain ⟨c, hc, rfl⟩ := List.mem_map.1 hb
      intro e
      rw [ints_46] at e
      obtain ⟨i, hi⟩ := List.getElem?_of_mem hc
      exact hno i (e ▸ hi)
    · obtain ⟨o, ho⟩ : ∃ o : Nat, Lib.indexByte a.data.toList 46 = o := ⟨(Lib.indexByte a.data.toList 46).toNat, by omega⟩
      obtain ⟨h1, h2⟩ := Lib.indexByte_some ho
      rw [if_neg hn, ho]
      have hlt : o < a.size := by
        have := (List.getElem?_eq_some_iff.1 h1).1
        rw [data_length] at this
        exact this
      rw [wnat o (by omega), if_pos (by omega), if_pos (by omega)]
      refine ⟨_, rfl, by rw [ByteArray.size_extract]; omega, Or.inr (Or.inr ⟨(bytesOf a).take o, ?_, ?_⟩)⟩
      · intro b hb e
        obtain ⟨i, hi⟩ := List.getElem?_of_mem hb
        have hio : i < o := by
          have := (List.getElem?_eq_some_iff.1 hi).1
          rw [List.length_take] at this
          omega
        rw [List.getElem?_take_of_lt hio, bytesOf_eq] at hi
        unfold ints at hi
        rw [List.getElem?_map] at hi
        obtain ⟨c, hc, he⟩ := Option.map_eq_some_iff.1 hi
        rw [e] at he
        exact h2 i hio (by rw [hc, (ints_46 c).1 he])
      · have etk : (bytesOf a).take a.size = bytesOf a := List.take_of_length_le (by rw [bytesOf_length]; exact Nat.le_refl _)
        rw [bytesOf_extract, Int.toNat_natCast, etk]
        have e : (bytesOf a)[o]? = some 46 := by
          rw [bytesOf_eq]; unfold ints; rw [List.getElem?_map, h1]; rfl
        obtain ⟨hl, hv⟩ := List.getElem?_eq_some_iff.1 e
        conv => lhs; rw [← List.take_append_drop o (bytesOf a), List.drop_eq_getElem_cons hl, hv]
theorem empty_bytes : bytesOf ⟨#[]⟩ = [] := rfl
/-- Of what has a parent: its labels. -/
theorem parent_labels (a p : ByteArray) (h : bytesOf a ≠ []) (hp : (bytesOf a ≠ [] ∧ p = ⟨#[]⟩ ∧ ∀ b ∈ bytesOf a, b ≠ 46) ∨ ∃ x, (∀ b ∈ x, b ≠ 46) ∧ bytesOf a = x ++ 46 :: bytesOf p) :
    (∃ x, Ls (bytesOf a) = x :: Ls (bytesOf p)) ∨ (∃ x, Ls (bytesOf a) = [x, []] ∧ bytesOf p = []) := by
  rcases hp with ⟨_, rfl, h2⟩ | ⟨x, h1, h2⟩
  · refine Or.inl ⟨bytesOf a, ?_⟩
    rw [empty_bytes, Ls_nil]
    unfold Ls
    rw [if_neg h, labs_none _ h2]
  · have e : Ls (bytesOf a) = x :: labs (bytesOf p) := by
      unfold Ls
      rw [if_neg h, h2, labs_at x _ h1]
    by_cases h3 : bytesOf p = []
    · exact Or.inr ⟨x, by rw [e, h3]; rfl, h3⟩
    · refine Or.inl ⟨x, ?_⟩
      rw [e]
      unfold Ls
      rw [if_neg h3]
theorem key_cons {a p : List Int} {x : List Int} (h : Ls a = x :: Ls p) : key a = key p ++ [fold x] := by
  unfold key keyOf
  rw [h]
  simp
theorem key_nil : key [] = [] := rfl
theorem parent_key (a p : ByteArray) (h : bytesOf a ≠ []) (hp : (bytesOf a ≠ [] ∧ p = ⟨#[]⟩ ∧ ∀ b ∈ bytesOf a, b ≠ 46) ∨ ∃ x, (∀ b ∈ x, b ≠ 46) ∧ bytesOf a = x ++ 46 :: bytesOf p) :
    cmpN (bytesOf p) (bytesOf a) = -1 ∧ isBelow (bytesOf a) (bytesOf p) = true := by
  have hk : key (bytesOf p) <+: key (bytesOf a) ∧ key (bytesOf p) ≠ key (bytesOf a) := by
    rcases parent_labels a p h hp with ⟨x, e⟩ | ⟨x, e, e2⟩
    · rw [key_cons e]
      refine ⟨List.prefix_append _ _, fun q => ?_⟩
      have := congrArg List.length q
      simp at this
    · rw [e2, key_nil]
      refine ⟨List.nil_prefix, ?_⟩
      unfold key keyOf
      rw [e]
      simp
  exact ⟨prefix_less cmpL_is _ _ hk.1 hk.2, decide_eq_true hk.1⟩
theorem Up_loop (N : Nat) (hN : N ≤ 4002) (S : Nat) (hS : S ≤ 4000) : ∀ (n i : Nat), i + n = N → ∀ a : ByteArray, a.size ≤ S → (Ls (bytesOf a)).length = n →
    ∀ k, 2 * n + 3 * S + 200 ≤ k → endonymlaw20_NameUp.l0 k a (N : Int) (i : Int) = some true := by
  intro n
  induction n with
  | zero =>
    intro i hi a ha hl k hk
    obtain ⟨k, rfl⟩ : ∃ m, k = m + 1 := ⟨k - 1, by omega⟩
    have h0 := Ls_zero.1 hl
    obtain ⟨p, hp, _, _⟩ := Parent_ok a (by omega)
    rw [endonymlaw20_NameUp.l0, if_neg (by omega), hp, Option.bind_some, told20_ok k (by omega), Option.bind_some, if_pos rfl, if_pos ((toList_nil a).2 h0)]
    simp [h0]
  | succ n ih =>
    intro i hi a ha hl k hk
    obtain ⟨k, rfl⟩ : ∃ m, k = m + 2 := ⟨k - 2, by omega⟩
    have h0 : bytesOf a ≠ [] := fun e => by rw [e] at hl; simp [Ls] at hl
    obtain ⟨p, hp, hps, hc⟩ := Parent_ok a (by omega)
    have hc2 := hc.resolve_left (fun q => h0 q.1)
    obtain ⟨c1, c2⟩ := parent_key a p h0 hc2
    rw [endonymlaw20_NameUp.l0, if_pos (by omega), hp, Option.bind_some, if_pos (by simp [h0]), Compare_ok p a (by omega) (by omega) _ (by omega), Option.bind_some, if_neg (by show ¬ cmpN (bytesOf p) (bytesOf a) ≥ 0; omega),
      Below_ok a p (by omega) (by omega) _ (by omega), Option.bind_some, c2, endonymlaw20_NameUp.j1, if_neg (by decide)]
    have w1 : wrap64 ((N : Int) - 1) = (N : Int) - 1 := w64 (by omega) (by omega)
    rw [w1, wnat i (by omega)]
    rcases parent_labels a p h0 hc2 with ⟨x, e⟩ | ⟨x, e, e2⟩
    · have hl2 : (Ls (bytesOf p)).length = n := by rw [e] at hl; simpa using hl
      have hr := ih (i + 1) (by omega) p (by omega) hl2 k (by omega)
      by_cases h3 : bytesOf p = []
      · have hn0 : n = 0 := by rw [← hl2, h3]; rfl
        rw [if_pos ((toList_nil p).2 h3), if_neg (by omega)]
        exact hr
      · rw [if_neg (fun q => h3 ((toList_nil p).1 q))]
        exact hr
    · have hn1 : n = 1 := by rw [e] at hl; simp at hl; omega
      rw [if_pos ((toList_nil p).2 e2), if_pos (by omega), told20_ok k (by omega)]
      rfl
theorem NameUp_ok (a : ByteArray) (ha : a.size ≤ 4000000000) : ∃ k, endonymlaw20_NameUp.f k a = some true := by
  refine ⟨30000, ?_⟩
  unfold endonymlaw20_NameUp.f
  by_cases h : (a.size : Int) > 4000
  · rw [if_pos h, told20_ok _ (by omega)]; rfl
  · rw [if_neg h]
    obtain ⟨X, hX, eX⟩ := Labels_ok a ha
    obtain ⟨lX, sX⟩ := size_of_Ls eX
    rw [hX, Option.bind_some]
    exact Up_loop X.length (by omega) a.size (by omega) X.length 0 (by omega) a (Nat.le_refl _) (by rw [← eX, List.length_map]) _ (by omega)
theorem below_refl_of (a b : List Int) (h : cmpN a b = 0) : isBelow a b = true ∧ isBelow b a = true := by
  have e := (cmpN_is.eq _ _).1 h
  unfold isBelow
  rw [e]
  simp
theorem Order_j0 (k : Nat) (a b c : ByteArray) (ha : a.size ≤ 4000000000) (hb : b.size ≤ 4000000000) (hc : c.size ≤ 4000000000) (hk : 4 * (a.size + b.size + c.size) + 100 ≤ k) (x : Int) (hx : x = cmpN (bytesOf a) (bytesOf b)) : endonymlaw20_NameOrder.j0 k a b c x false = some true := by
  obtain ⟨k, rfl⟩ : ∃ m, k = m + 1 := ⟨k - 1, by omega⟩
  rw [endonymlaw20_NameOrder.j0, if_neg (by decide)]
  by_cases h : x = 0
  · rw [if_pos h]
    rw [h] at hx
    obtain ⟨b1, b2⟩ := below_refl_of _ _ hx.symm
    have e := (cmpN_is.eq _ _).1 hx.symm
    rw [Compare_ok c a hc ha _ (by omega), Option.bind_some, Compare_ok c b hc hb _ (by omega), Option.bind_some, if_pos (by unfold cmpN; rw [e]), Below_ok a b ha hb _ (by omega), Option.bind_some, b1, if_pos rfl, Below_ok b a hb ha _ (by omega), Option.bind_some, b2]
  · rw [if_neg h]
theorem NameOrder_ok (a b c : ByteArray) (ha : a.size ≤ 4000000000) (hb : b.size ≤ 4000000000) (hc : c.size ≤ 4000000000) : ∃ k, endonymlaw20_NameOrder.f k a b c = some true := by
  refine ⟨4 * (a.size + b.size + c.size) + 200, ?_⟩
  have hj := Order_j0 (4 * (a.size + b.size + c.size) + 200) a b c ha hb hc (by omega) _ rfl
  unfold endonymlaw20_NameOrder.f
  rw [Compare_ok a b ha hb _ (by omega), Option.bind_some, Compare_ok b c hb hc _ (by omega), Option.bind_some, Compare_ok a c ha hc _ (by omega), Option.bind_some, told20_ok _ (by omega), Option.bind_some, if_pos rfl, Compare_ok b a hb ha _ (by omega), Option.bind_some]
  have hv := cmpN_is.val (key (bytesOf a)) (key (bytesOf b))
  have han := cmpN_is.anti (key (bytesOf a)) (key (bytesOf b))
  have hrf := cmpN_is.refl (key (bytesOf a))
  have hle := cmpN_is.le (x := key (bytesOf a)) (y := key (bytesOf b)) (z := key (bytesOf c))
  rw [if_pos (by unfold cmpN; rw [w64 (by omega) (by omega)]; exact han), Compare_ok a a ha ha _ (by omega), Option.bind_some, if_pos (show cmpN (bytesOf a) (bytesOf a) = 0 from hrf)]
  change lex cmpL (key (bytesOf a)) (key (bytesOf b)) ≤ 0 → lex cmpL (key (bytesOf b)) (key (bytesOf c)) ≤ 0 → _ at hle
  generalize hx : cmpN (bytesOf a) (bytesOf b) = x at *
  generalize hy : cmpN (bytesOf b) (bytesOf c) = y at *
  generalize hz : cmpN (bytesOf a) (bytesOf c) = z at *
  unfold cmpN at hx hy hz
  rw [hx, hy, hz] at hle
  by_cases h1 : x ≤ 0
  · rw [if_pos h1]
    by_cases h2 : y ≤ 0
    · obtain ⟨g1, g2, g3⟩ := hle h1 h2
      rw [if_pos h2, if_neg (by omega)]
      by_cases h3 : x < 0
      · have := g2 h3
        rw [if_pos h3, if_neg (by omega)]
        by_cases h4 : y < 0
        · rw [if_pos h4, decide_eq_false (by omega)]; exact hj
        · rw [if_neg h4]; exact hj
      · rw [if_neg h3]
        by_cases h4 : y < 0
        · have := g3 h4
          rw [if_pos h4, decide_eq_false (by omega)]; exact hj
        · rw [if_neg h4]; exact hj
    · rw [if_neg h2]
      by_cases h3 : x < 0
      · rw [if_pos h3, if_neg (by omega)]; exact hj
      · rw [if_neg h3, if_neg (by omega)]; exact hj
  · rw [if_neg h1, if_neg (by omega)]; exact hj
theorem Lies_j2 (k : Nat) (a p : ByteArray) (ok : Bool) (ha : a.size ≤ 4000000000) (hp : p.size ≤ a.size) (hk : 5 * a.size + 200 ≤ k)
    (h : ok = true → cmpN (bytesOf p) (bytesOf a) = -1 ∧ isBelow (bytesOf a) (bytesOf p) = true) : endonymlaw20_NameLies.j2 k a p ok false = some true := by
  obtain ⟨k, rfl⟩ : ∃ m, k = m + 1 := ⟨k - 1, by omega⟩
  rw [endonymlaw20_NameLies.j2, if_neg (by decide), told20_ok _ (by omega), Option.bind_some, if_pos rfl]
  by_cases ho : ok = true
  · obtain ⟨c1, c2⟩ := h ho
    have hr : ((name_Compare.f k p a).bind fun t => if t < 0 then ((name_Below.f k a p).bind fun t => some t) else some false) = some true := by
      rw [Compare_ok p a (by omega) ha _ (by omega), Option.bind_some, if_pos (by omega), Below_ok a p ha (by omega) _ (by omega), Option.bind_some, c2]
    obtain ⟨X, hX, _⟩ := Labels_ok a ha
    rw [if_pos ho, hX, Option.bind_some]
    repeat' split
    all_goals (first | rfl | exact hr)
  · rw [if_neg ho]
theorem Lies_j1 (k : Nat) (a : ByteArray) (ha : a.size ≤ 4000000000) (hk : 5 * a.size + 300 ≤ k) : endonymlaw20_NameLies.j1 k a = some true := by
  obtain ⟨k, rfl⟩ : ∃ m, k = m + 1 := ⟨k - 1, by omega⟩
  obtain ⟨p, hp, hps, hc⟩ := Parent_ok a ha
  rw [endonymlaw20_NameLies.j1, hp, Option.bind_some]
  have hb : (decide (bytesOf a ≠ []) != (a.toList != ([] : List UInt8))) = false := by
    by_cases h : bytesOf a = []
    · have := (toList_nil a).2 h
      simp [h, this]
    · have : ¬ a.toList = [] := fun e => h ((toList_nil a).1 e)
      simp [h, this]
  rw [hb, if_neg (by decide), Below_ok a ⟨#[]⟩ ha (by decide) _ (by rw [show (⟨#[]⟩ : ByteArray).size = 0 from rfl]; omega), Option.bind_some, if_pos (by unfold isBelow; rw [empty_bytes, key_nil]; simp), Below_ok a a ha ha _ (by omega), Option.bind_some]
  rw [show isBelow (bytesOf a) (bytesOf a) = true from by unfold isBelow; simp]
  refine Lies_j2 k a p _ ha hps (by omega) (fun ho => ?_)
  have h0 : bytesOf a ≠ [] := of_decide_eq_true ho
  exact parent_key a p h0 (hc.resolve_left (fun q => h0 q.1))
theorem NameLies_ok (a b c d : ByteArray) (ha : a.size ≤ 4000000000) (hb : b.size ≤ 4000000000) (hc : c.size ≤ 4000000000) (hd : d.size ≤ 4000000000) : ∃ k, endonymlaw20_NameLies.f k a b c d = some true := by
  refine ⟨5 * (a.size + b.size + c.size + d.size) + 1000, ?_⟩
  generalize hK : 5 * (a.size + b.size + c.size + d.size) + 1000 = k
  unfold endonymlaw20_NameLies.f
  have hj1 : ∀ k, 5 * a.size + 300 ≤ k → endonymlaw20_NameLies.j1 k a = some true := fun k hk => Lies_j1 k a ha hk
  have hjf : endonymlaw20_NameLies.j0 k a b c d false = some true := by
    obtain ⟨k, rfl⟩ : ∃ m, k = m + 1 := ⟨k - 1, by omega⟩
    rw [endonymlaw20_NameLies.j0, if_neg (by decide), hj1 k (by omega)]
  rw [Compare_ok a b ha hb _ (by omega), Option.bind_some]
  by_cases h1 : cmpN (bytesOf a) (bytesOf b) ≤ 0
  · rw [if_pos h1, Compare_ok b c hb hc _ (by omega), Option.bind_some]
    by_cases h2 : cmpN (bytesOf b) (bytesOf c) ≤ 0
    · rw [decide_eq_true h2]
      obtain ⟨k, rfl⟩ : ∃ m, k = m + 1 := ⟨k - 1, by omega⟩
      have hpre : ∀ q : List Int, isBelow (bytesOf a) q = true → isBelow (bytesOf c) q = true → isBelow (bytesOf b) q = true := fun q g1 g2 =>
        decide_eq_true (prefix_between cmpL_is _ _ _ _ (of_decide_eq_true g1) (of_decide_eq_true g2) h1 h2)
      have hself : isBelow (bytesOf a) (bytesOf a) = true := by unfold isBelow; simp
      have hca : ∀ X : Option Bool, X = some true → (((name_Below.f k c a).bind fun t => if t = true then ((name_Below.f k b a).bind fun t => if t = true then X else some false) else X)) = some true := by
        intro X hX
        rw [Below_ok c a hc ha _ (by omega), Option.bind_some]
        by_cases g : isBelow (bytesOf c) (bytesOf a) = true
        · rw [if_pos g, Below_ok b a hb ha _ (by omega), Option.bind_some, if_pos (hpre _ hself g), hX]
        · rw [if_neg g, hX]
      rw [endonymlaw20_NameLies.j0, if_pos rfl, Below_ok a d ha hd _ (by omega), Option.bind_some]
      by_cases g1 : isBelow (bytesOf a) (bytesOf d) = true
      · rw [if_pos g1, Below_ok c d hc hd _ (by omega), Option.bind_some]
        by_cases g2 : isBelow (bytesOf c) (bytesOf d) = true
        · rw [if_pos g2, Below_ok b d hb hd _ (by omega), Option.bind_some, if_pos (hpre _ g1 g2)]
          exact hca _ (hj1 k (by omega))
        · rw [if_neg g2]
          exact hca _ (hj1 k (by omega))
      · rw [if_neg g1]
        exact hca _ (hj1 k (by omega))
    · rw [decide_eq_false h2]; exact hjf
  · rw [if_neg h1]; exact hjf
end Go.Proofs.YtfbadcjojkgibaaDoor.Plain
