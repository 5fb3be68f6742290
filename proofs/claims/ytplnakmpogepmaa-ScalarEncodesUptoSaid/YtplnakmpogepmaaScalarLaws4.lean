import Derived.Test.YtplnakmpogepmaaScalarLaws3
import Derived.Test.YtplnakmpogepmaaAx7
import Derived.Test.YtplnakmpogepmaaAx6
/-! ScalarEncodes. -/
namespace Go.Proofs.Ytplnakmpogepmaa.Plain
open Go.RowKit Go.Proofs.YtplnakmpogepmaaW.PrintWords Go.Proofs.YtplnakmpogepmaaW.PrintLast Go.Proofs.YtplnakmpogepmaaW.PrintMore Go.Proofs.Ytplnakmpogepmaa.A
set_option linter.unusedVariables false
set_option linter.unusedSimpArgs false

theorem roomy_eq (l : List Int) (hl : l.length ≤ 16777216) : endonymlaw3_roomy.f l = some l := by
  unfold endonymlaw3_roomy.f
  rw [if_pos (by simp; omega)]
  simp only [List.nil_append, Option.bind_some]
  rw [if_pos (by simp; omega), if_pos (by omega), if_pos (by simp; omega)]
  simp
theorem sound_prog (l : List Int) (hl : l.length ≤ 16777216) : ∀ (n i k : Nat), i + n = l.length → n + 1 ≤ k → scalar_Sound.l0 k l (l.length : Int) (i : Int) = some ((l.drop i).all validS) := by
  intro n
  induction n with
  | zero =>
    intro i k hi hk
    obtain ⟨k, rfl⟩ : ∃ m, k = m + 1 := ⟨k - 1, by omega⟩
    rw [drop_all _ _ (by omega), scalar_Sound.l0, if_neg (by omega)]; rfl
  | succ n ih =>
    intro i k hi hk
    obtain ⟨k, rfl⟩ : ∃ m, k = m + 1 := ⟨k - 1, by omega⟩
    have e : wrap64 ((i : Int) + 1) = ((i + 1 : Nat) : Int) := by rw [w64 (by omega) (by omega)]; rfl
    rw [drop_rd l i (by omega), scalar_Sound.l0, if_pos (by omega), if_pos (by omega), if_pos (by omega), e, Valid_prog]
    simp only [Option.bind_some, List.all_cons]
    cases validS (rd l (i : Int)) with
    | true => rw [if_pos rfl, Bool.true_and]; exact ih (i + 1) k (by omega) (by omega)
    | false => rw [if_neg (by decide), Bool.false_and]
theorem sound_ref (l : List Int) (hl : l.length ≤ 16777216) : ∀ (n i k : Nat), i + n = l.length → n + 1 ≤ k → endonymref3_Sound.l0 k l (i : Int) = some ((l.drop i).all validS) := by
  intro n
  induction n with
  | zero =>
    intro i k hi hk
    obtain ⟨k, rfl⟩ : ∃ m, k = m + 1 := ⟨k - 1, by omega⟩
    rw [drop_all _ _ (by omega), endonymref3_Sound.l0, if_neg (by omega)]; rfl
  | succ n ih =>
    intro i k hi hk
    obtain ⟨k, rfl⟩ : ∃ m, k = m + 1 := ⟨k - 1, by omega⟩
    have e : wrap64 ((i : Int) + 1) = ((i + 1 : Nat) : Int) := by rw [w64 (by omega) (by omega)]; rfl
    rw [drop_rd l i (by omega), endonymref3_Sound.l0, if_pos (by omega), if_pos (by omega), e, Valid_ref]
    simp only [Option.bind_some, List.all_cons]
    cases validS (rd l (i : Int)) with
    | true => rw [if_pos rfl, Bool.true_and]; exact ih (i + 1) k (by omega) (by omega)
    | false => rw [if_neg (by decide), Bool.false_and]
def asciiS (c : Int) : Bool := decide (¬ c < 0 ∧ ¬ c > 127)
theorem ascii_prog (l : List Int) (hl : l.length ≤ 16777216) : ∀ (n i k : Nat), i + n = l.length → n + 1 ≤ k → scalar_ASCII.l0 k l (l.length : Int) (i : Int) = some ((l.drop i).all asciiS) := by
  intro n
  induction n with
  | zero =>
    intro i k hi hk
    obtain ⟨k, rfl⟩ : ∃ m, k = m + 1 := ⟨k - 1, by omega⟩
    rw [drop_all _ _ (by omega), scalar_ASCII.l0, if_neg (by omega)]; rfl
  | succ n ih =>
    intro i k hi hk
    obtain ⟨k, rfl⟩ : ∃ m, k = m + 1 := ⟨k - 1, by omega⟩
    have e : wrap64 ((i : Int) + 1) = ((i + 1 : Nat) : Int) := by rw [w64 (by omega) (by omega)]; rfl
    rw [drop_rd l i (by omega), scalar_ASCII.l0, if_pos (by omega), if_pos (by omega), if_pos (by omega), e, List.all_cons, asciiS]
    by_cases h1 : rd l (i : Int) < 0
    · rw [if_pos h1, decide_eq_false (fun h => h.1 h1), Bool.false_and]
    · rw [if_neg h1]
      by_cases h2 : rd l (i : Int) > 127
      · rw [if_pos h2, decide_eq_false (fun h => h.2 h2), Bool.false_and]
      · rw [if_neg h2, decide_eq_true ⟨h1, h2⟩, Bool.true_and]; exact ih (i + 1) k (by omega) (by omega)
theorem ascii_ref (l : List Int) (hl : l.length ≤ 16777216) : ∀ (n i k : Nat), i + n = l.length → n + 1 ≤ k → endonymref3_ASCII.l0 k l (i : Int) = some ((l.drop i).all asciiS) := by
  intro n
  induction n with
  | zero =>
    intro i k hi hk
    obtain ⟨k, rfl⟩ : ∃ m, k = m + 1 := ⟨k - 1, by omega⟩
    rw [drop_all _ _ (by omega), endonymref3_ASCII.l0, if_neg (by omega)]; rfl
  | succ n ih =>
    intro i k hi hk
    obtain ⟨k, rfl⟩ : ∃ m, k = m + 1 := ⟨k - 1, by omega⟩
    have e : wrap64 ((i : Int) + 1) = ((i + 1 : Nat) : Int) := by rw [w64 (by omega) (by omega)]; rfl
    rw [drop_rd l i (by omega), endonymref3_ASCII.l0, if_pos (by omega), if_pos (by omega), e, List.all_cons, asciiS]
    by_cases h1 : rd l (i : Int) < 0
    · rw [if_pos h1, decide_eq_false (fun h => h.1 h1), Bool.false_and]
    · rw [if_neg h1]
      by_cases h2 : rd l (i : Int) > 127
      · rw [if_pos h2, decide_eq_false (fun h => h.2 h2), Bool.false_and]
      · rw [if_neg h2, decide_eq_true ⟨h1, h2⟩, Bool.true_and]; exact ih (i + 1) k (by omega) (by omega)
def bytesN (n : Nat) : Nat ⊕ List Int → Int
  | .inl _ => -1
  | .inr out => ((n + out.length : Nat) : Int)
theorem bytesN_conc (n : Nat) (l : List Int) (r : Nat ⊕ List Int) : bytesN n (conc l r) = bytesN (n + l.length) r := by
  rcases r with i | o <;> simp [bytesN, conc]; omega
theorem bytes_prog (l : List Int) (hl : l.length ≤ 16777216) : ∀ (n i m k : Nat), i + n = l.length → m ≤ 4 * i → 2 * n + 1 ≤ k → scalar_Bytes.l0 k (m : Int) l (l.length : Int) (i : Int) = some (bytesN m (enc (l.drop i) i)) := by
  intro n
  induction n with
  | zero =>
    intro i m k hi hm hk
    obtain ⟨k, rfl⟩ : ∃ m, k = m + 1 := ⟨k - 1, by omega⟩
    rw [drop_all _ _ (by omega), scalar_Bytes.l0, if_neg (by omega)]
    simp [enc, bytesN]
  | succ n ih =>
    intro i m k hi hm hk
    obtain ⟨k, rfl⟩ : ∃ m, k = m + 2 := ⟨k - 2, by omega⟩
    have e : wrap64 ((i : Int) + 1) = ((i + 1 : Nat) : Int) := by rw [w64 (by omega) (by omega)]; rfl
    rw [drop_rd l i (by omega), scalar_Bytes.l0, if_pos (by omega), if_pos (by omega), if_pos (by omega), Valid_prog]
    generalize rd l (i : Int) = c
    simp only [Option.bind_some, enc]
    by_cases hv : validS c = true
    · have e1 : wrap64 ((m : Int) + 1) = ((m + 1 : Nat) : Int) := by rw [w64 (by omega) (by omega)]; rfl
      have e2 : wrap64 (((m + 1 : Nat) : Int) + 1) = ((m + 2 : Nat) : Int) := by rw [w64 (by omega) (by omega)]; rfl
      have e3 : wrap64 (((m + 2 : Nat) : Int) + 1) = ((m + 3 : Nat) : Int) := by rw [w64 (by omega) (by omega)]; rfl
      have e4 : wrap64 (((m + 3 : Nat) : Int) + 1) = ((m + 4 : Nat) : Int) := by rw [w64 (by omega) (by omega)]; rfl
      have fl := form_len c
      have next : ∀ m', m' = m + (formS c).length → scalar_Bytes.l0 k (m' : Int) l (l.length : Int) ((i + 1 : Nat) : Int) = some (bytesN (m + (formS c).length) (enc (l.drop (i + 1)) (i + 1))) := fun m' hm' => by
        rw [hm']; exact ih (i + 1) _ k (by omega) (by omega) (by omega)
      rw [if_pos hv, if_pos hv, bytesN_conc, e1, e2]
      by_cases c1 : c < 128
      · have hf : formS c = [c] := by unfold formS; rw [if_pos c1]
        rw [if_neg (by omega), scalar_Bytes.j1, if_neg (by omega), if_neg (by omega), e]
        exact next _ (by rw [hf]; rfl)
      rw [if_pos (by omega), scalar_Bytes.j1]
      by_cases c2 : c < 2048
      · have hf : formS c = [192 + c / 64, 128 + c % 64] := by unfold formS; rw [if_neg c1, if_pos c2]
        rw [if_neg (by omega), if_neg (by omega), e]
        exact next _ (by rw [hf]; rfl)
      rw [if_pos (by omega), e3]
      by_cases c3 : c < 65536
      · have hf : formS c = [224 + c / 4096, 128 + c / 64 % 64, 128 + c % 64] := by unfold formS; rw [if_neg c1, if_neg c2, if_pos c3]
        rw [if_neg (by omega), e]
        exact next _ (by rw [hf]; rfl)
      have hf : formS c = [240 + c / 262144, 128 + c / 4096 % 64, 128 + c / 64 % 64, 128 + c % 64] := by unfold formS; rw [if_neg c1, if_neg c2, if_neg c3]
      rw [if_pos (by omega), e4, e]
      exact next _ (by rw [hf]; rfl)
    · rw [if_neg hv, if_neg hv]; rfl
theorem law_encodes (l : List Int) (c : Int) (hl : l.length ≤ 1048576) : ∃ k, endonymlaw3_ScalarEncodes.f k l c = some true := by
  refine ⟨4 * l.length + 40, ?_⟩
  have hB : scalar_Bytes.f (4 * l.length + 40) l = some (bytesN 0 (enc l 0)) := by
    unfold scalar_Bytes.f; exact bytes_prog l (by omega) l.length 0 0 _ (by omega) (by omega) (by omega)
  have hBR : endonymref3_Bytes.f (4 * l.length + 40) l = some (bytesN 0 (enc l 0)) := by
    unfold endonymref3_Bytes.f
    rw [EncodeR_ok l (by omega) _ (by omega), Option.bind_some]
    cases enc l 0 with
    | inl i => rw [show finE [] (Sum.inl i) = ((⟨#[]⟩ : ByteArray), (i : Int), 31) from rfl]; simp only; rw [if_neg (by decide)]; rfl
    | inr o => rw [show finE [] (Sum.inr o) = (strOfNums o, 0, 0) from rfl, if_pos rfl]; simp [bytesN, strOfNums_size]
  have hS : scalar_Sound.f (4 * l.length + 40) l = some (l.all validS) := by unfold scalar_Sound.f; exact sound_prog l (by omega) l.length 0 _ (by omega) (by omega)
  have hSR : endonymref3_Sound.f (4 * l.length + 40) l = some (l.all validS) := by unfold endonymref3_Sound.f; exact sound_ref l (by omega) l.length 0 _ (by omega) (by omega)
  have hA : scalar_ASCII.f (4 * l.length + 40) l = some (l.all asciiS) := by unfold scalar_ASCII.f; exact ascii_prog l (by omega) l.length 0 _ (by omega) (by omega)
  have hAR : endonymref3_ASCII.f (4 * l.length + 40) l = some (l.all asciiS) := by unfold endonymref3_ASCII.f; exact ascii_ref l (by omega) l.length 0 _ (by omega) (by omega)
  unfold endonymlaw3_ScalarEncodes.f
  rw [roomy_eq l (by omega), Option.bind_some, Encode_ok l (by omega) _ (by omega), Option.bind_some, EncodeR_ok l (by omega) _ (by omega), Option.bind_some, told_ok _ (by omega), Option.bind_some, if_pos rfl, if_pos rfl, if_pos rfl, if_pos rfl]
  rw [hB, Option.bind_some, hBR, Option.bind_some, if_pos rfl, hS, Option.bind_some, hSR, Option.bind_some, if_pos (beq_self_eq_true _), hA, Option.bind_some, hAR, Option.bind_some, if_pos (beq_self_eq_true _)]
  rw [Valid_prog, Option.bind_some, Valid_ref, Option.bind_some, if_pos (beq_self_eq_true _)]
  unfold endonymlaw3_whole.f
  rw [Same_eq l (by omega) _ (by omega)]
  rfl
end Go.Proofs.Ytplnakmpogepmaa.Plain
