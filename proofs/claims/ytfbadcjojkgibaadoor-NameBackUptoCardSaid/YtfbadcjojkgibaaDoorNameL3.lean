import Derived.Test.YtfbadcjojkgibaaDoorNameL2
import Derived.Lib.IndexLaws
import Derived.Test.YtfbadcjojkgibaaDoorNx8
/-! The parent; labels with full stops between. -/
namespace Go.Proofs.YtfbadcjojkgibaaDoor.Plain
open Go.RowKit Go.Proofs.YtfbadcjojkgibaaDoorW.PrintWords Go.Proofs.YtfbadcjojkgibaaDoorW.PrintLast Go.Proofs.YtfbadcjojkgibaaDoorW.PrintMore Go.Proofs.YtfbadcjojkgibaaDoor.N
set_option linter.unusedVariables false
set_option linter.unusedSimpArgs false
theorem told20_ok (k : Nat) (hk : 60 ≤ k) : endonymlaw20_told.f k = some true := at_rounds endonymlaw20_told.mono hk (by decide +kernel)
theorem Ls_nil : Ls [] = [] := rfl
theorem Ls_zero {s : List Int} : (Ls s).length = 0 ↔ s = [] := by
  unfold Ls
  by_cases h : s = []
  · simp [h]
  · rw [if_neg h]
    have := labs_ne s
    simp [h, this]
/-- The parent: what is behind the first full stop. -/
theorem Parent_ok (a : ByteArray) (ha : a.size ≤ 4000000000) : ∃ p : ByteArray, name_Parent.f a = some (p, decide (bytesOf a ≠ [])) ∧ p.size ≤ a.size ∧
    ((bytesOf a = [] ∧ p = ⟨#[]⟩) ∨ (bytesOf a ≠ [] ∧ p = ⟨#[]⟩ ∧ ∀ b ∈ bytesOf a, b ≠ 46) ∨ ∃ x, (∀ b ∈ x, b ≠ 46) ∧ bytesOf a = x ++ 46 :: bytesOf p) := by
  unfold name_Parent.f
  by_cases h : bytesOf a = []
  · rw [if_pos ((toList_nil a).2 h)]
    exact ⟨_, by simp [h], Nat.zero_le _, Or.inl ⟨h, rfl⟩⟩
  · rw [if_neg (fun e => h ((toList_nil a).1 e))]
    have hd : decide (bytesOf a ≠ []) = true := decide_eq_true h
    rw [hd]
    unfold strings_IndexByte.f
    rw [Option.bind_some]
    have e46 : (46 : Int).toNat.toUInt8 = 46 := rfl
    rw [e46]
    have hge := Lib.indexByte_ge a.data.toList 46
    by_cases hn : Lib.indexByte a.data.toList 46 < 0
    · rw [if_pos hn]
      refine ⟨_, rfl, Nat.zero_le _, Or.inr (Or.inl ⟨h, rfl, ?_⟩)⟩
      intro b hb
      have hno := Lib.indexByte_none (l := a.data.toList) (c := 46) (by omega)
      rw [bytesOf_eq] at hb
      obtain ⟨c, hc, rfl⟩ := List.mem_map.1 hb
      intro e
      rw [ints_46] at e
      obtain ⟨i, hi⟩ := List.getElem?_of_mem hc
      exact hno i (e ▸ hi)
    · obtain ⟨o, ho⟩ : ∃ o : Nat, Lib.indexByte a.data.toList 46 = o := ⟨(Lib.indexByte a.data.toList 46).toNat, by omega⟩
      obtain ⟨h1, h2⟩ := Lib.indexByte_some ho
      rw [if_neg hn, ho]
      have hlt : o < a.size := by
        have := (List.getElem?_eq_some_iff.1 h1).1
        rw [data_length] at this
        exact this
      rw [wnat o (by omega), if_pos (by omega), if_pos (by omega)]
      refine ⟨_, rfl, by rw [ByteArray.size_extract]; omega, Or.inr (Or.inr ⟨(bytesOf a).take o, ?_, ?_⟩)⟩
      · intro b hb e
        obtain ⟨i, hi⟩ := List.getElem?_of_mem hb
        have hio : i < o := by
          have := (List.getElem?_eq_some_iff.1 hi).1
          rw [List.length_take] at this
          omega
        rw [List.getElem?_take_of_lt hio, bytesOf_eq] at hi
        unfold ints at hi
        rw [List.getElem?_map] at hi
        obtain ⟨c, hc, he⟩ := Option.map_eq_some_iff.1 hi
        rw [e] at he
        exact h2 i hio (by rw [hc, (ints_46 c).1 he])
      · have etk : (bytesOf a).take a.size = bytesOf a := List.take_of_length_le (by rw [bytesOf_length]; exact Nat.le_refl _)
        rw [bytesOf_extract, Int.toNat_natCast, etk]
        have e : (bytesOf a)[o]? = some 46 := by
          rw [bytesOf_eq]; unfold ints; rw [List.getElem?_map, h1]; rfl
        obtain ⟨hl, hv⟩ := List.getElem?_eq_some_iff.1 e
        conv => lhs; rw [← List.take_append_drop o (bytesOf a), List.drop_eq_getElem_cons hl, hv]
theorem empty_bytes : bytesOf ⟨#[]⟩ = [] := rfl
/-- Of what has a parent: its labels. -/
theorem parent_labels (a p : ByteArray) (h : bytesOf a ≠ []) (hp : (bytesOf a ≠ [] ∧ p = ⟨#[]⟩ ∧ ∀ b ∈ bytesOf a, b ≠ 46) ∨ ∃ x, (∀ b ∈ x, b ≠ 46) ∧ bytesOf a = x ++ 46 :: bytesOf p) :
    (∃ x, Ls (bytesOf a) = x :: Ls (bytesOf p)) ∨ (∃ x, Ls (bytesOf a) = [x, []] ∧ bytesOf p = []) := by
  rcases hp with ⟨_, rfl, h2⟩ | ⟨x, h1, h2⟩
  · refine Or.inl ⟨bytesOf a, ?_⟩
    rw [empty_bytes, Ls_nil]
    unfold Ls
    rw [if_neg h, labs_none _ h2]
  · have e : Ls (bytesOf a) = x :: labs (bytesOf p) := by
      unfold Ls
      rw [if_neg h, h2, labs_at x _ h1]
    by_cases h3 : bytesOf p = []
    · exact Or.inr ⟨x, by rw [e, h3]; rfl, h3⟩
    · refine Or.inl ⟨x, ?_⟩
      rw [e]
      unfold Ls
      rw [if_neg h3]
theorem key_cons {a p : List Int} {x : List Int} (h : Ls a = x :: Ls p) : key a = key p ++ [fold x] := by
  unfold key keyOf
  rw [h]
  simp
theorem key_nil : key [] = [] := rfl
theorem parent_key (a p : ByteArray) (h : bytesOf a ≠ []) (hp : (bytesOf a ≠ [] ∧ p = ⟨#[]⟩ ∧ ∀ b ∈ bytesOf a, b ≠ 46) ∨ ∃ x, (∀ b ∈ x, b ≠ 46) ∧ bytesOf a = x ++ 46 :: bytesOf p) :
    cmpN (bytesOf p) (bytesOf a) = -1 ∧ isBelow (bytesOf a) (bytesOf p) = true := by
  have hk : key (bytesOf p) <+: key (bytesOf a) ∧ key (bytesOf p) ≠ key (bytesOf a) := by
    rcases parent_labels a p h hp with ⟨x, e⟩ | ⟨x, e, e2⟩
    · rw [key_cons e]
      refine ⟨List.prefix_append _ _, fun q => ?_⟩
      have := congrArg List.length q
      simp at this
    · rw [e2, key_nil]
      refine ⟨List.nil_prefix, ?_⟩
      unfold key keyOf
      rw [e]
      simp
  exact ⟨prefix_less cmpL_is _ _ hk.1 hk.2, decide_eq_true hk.1⟩
/-- Labels with full stops between. -/
def jn : List (List Int) → List Int
  | [] => []
  | x :: r => x ++ (r.map (46 :: ·)).flatten
theorem jn_labs : ∀ l : List Int, jn (labs l) = l
  | [] => rfl
  | b :: l => by
    have ih := jn_labs l
    by_cases h : b = 46
    · subst h
      rw [labs_stop]
      cases e : labs l with
      | nil => exact absurd e (labs_ne l)
      | cons x r =>
        rw [e] at ih
        simp only [jn, List.map_cons, List.flatten_cons] at ih ⊢
        rw [← ih]
        simp
    · obtain ⟨x, r, e1, e2⟩ := labs_other h l
      rw [e1] at ih
      rw [e2]
      simp only [jn] at ih ⊢
      rw [← ih]
      simp
theorem drop_split (l : List Int) (f i : Nat) (h : f ≤ i) (hi : i ≤ l.length) : l.drop f = (l.take i).drop f ++ l.drop i := by
  conv => lhs; rw [← List.take_append_drop i l]
  rw [List.drop_append_of_le_length (by rw [List.length_take]; omega)]
end Go.Proofs.YtfbadcjojkgibaaDoor.Plain
