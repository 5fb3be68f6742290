import Derived.Test.YtplnakmpogepmaaScalarLaws2
import Derived.Test.YtplnakmpogepmaaAx3
import Derived.Test.YtplnakmpogepmaaAx6
import Derived.Test.YtplnakmpogepmaaAx2
/-! What is written: the bytes of a number, of a list; both programs' Encode, Bytes, Sound, ASCII, Valid. -/
namespace Go.Proofs.Ytplnakmpogepmaa.Plain
open Go.RowKit Go.Proofs.YtplnakmpogepmaaW.PrintWords Go.Proofs.YtplnakmpogepmaaW.PrintLast Go.Proofs.YtplnakmpogepmaaW.PrintMore Go.Proofs.Ytplnakmpogepmaa.A
set_option linter.unusedVariables false
set_option linter.unusedSimpArgs false

def validS (c : Int) : Bool := decide (0 ≤ c ∧ c ≤ 1114111 ∧ (c < 55296 ∨ 57343 < c))
def formS (c : Int) : List Int :=
  if c < 128 then [c] else if c < 2048 then [192 + c / 64, 128 + c % 64] else if c < 65536 then [224 + c / 4096, 128 + c / 64 % 64, 128 + c % 64]
  else [240 + c / 262144, 128 + c / 4096 % 64, 128 + c / 64 % 64, 128 + c % 64]
def conc (l : List Int) : Nat ⊕ List Int → Nat ⊕ List Int
  | .inl i => .inl i
  | .inr out => .inr (l ++ out)
def enc : List Int → Nat → Nat ⊕ List Int
  | [], _ => .inr []
  | c :: cs, i => if validS c = true then conc (formS c) (enc cs (i + 1)) else .inl i
def finE (acc : List Int) : Nat ⊕ List Int → ByteArray × Int × Int
  | .inl i => ((⟨#[]⟩ : ByteArray), (i : Int), 31)
  | .inr out => (strOfNums (acc ++ out), 0, 0)
theorem finE_conc (acc l : List Int) (r : Nat ⊕ List Int) : finE acc (conc l r) = finE (acc ++ l) r := by rcases r with i | o <;> simp [finE, conc]
theorem valid_iff {c : Int} : validS c = true ↔ 0 ≤ c ∧ c ≤ 1114111 ∧ (c < 55296 ∨ 57343 < c) := decide_eq_true_iff
theorem form_len (c : Int) : 1 ≤ (formS c).length ∧ (formS c).length ≤ 4 := by
  unfold formS
  by_cases c1 : c < 128
  · rw [if_pos c1]; simp
  rw [if_neg c1]
  by_cases c2 : c < 2048
  · rw [if_pos c2]; simp
  rw [if_neg c2]
  by_cases c3 : c < 65536
  · rw [if_pos c3]; simp
  rw [if_neg c3]; simp
theorem form_bytes {c : Int} (h : validS c = true) : ∀ b ∈ formS c, 0 ≤ b ∧ b ≤ 255 := by
  rw [valid_iff] at h
  intro b hb
  unfold formS at hb
  repeat' split at hb
  all_goals simp only [List.mem_cons, List.not_mem_nil, or_false] at hb; omega
theorem Valid_prog (c : Int) : scalar_Valid.f c = some (validS c) := by
  unfold scalar_Valid.f validS
  by_cases h0 : c ≥ 0
  · rw [if_pos h0]
    by_cases h1 : c ≤ 1114111
    · rw [if_pos h1]
      by_cases h2 : c < 55296
      · rw [if_pos h2]; congr 1; symm; rw [decide_eq_true_iff]; omega
      · rw [if_neg h2]; congr 1; rw [decide_eq_decide]; omega
    · rw [if_neg h1]; congr 1; symm; rw [decide_eq_false_iff_not]; omega
  · rw [if_neg h0]; congr 1; symm; rw [decide_eq_false_iff_not]; omega
theorem Valid_ref (c : Int) : endonymref3_Valid.f c = some (validS c) := by
  unfold endonymref3_Valid.f validS
  by_cases h0 : c ≥ 0
  · rw [if_pos h0]
    by_cases h1 : c ≤ 55295
    · rw [if_pos h1]; congr 1; symm; rw [decide_eq_true_iff]; omega
    · rw [if_neg h1]
      by_cases h2 : c ≥ 57344
      · rw [if_pos h2]; congr 1; rw [decide_eq_decide]; omega
      · rw [if_neg h2]; congr 1; symm; rw [decide_eq_false_iff_not]; omega
  · rw [if_neg h0]
    by_cases h2 : c ≥ 57344
    · omega
    · rw [if_neg h2]; congr 1; symm; rw [decide_eq_false_iff_not]; omega
theorem i32_and63 {c : Int} (h0 : 0 ≤ c) (h1 : c < 2147483648) : Go.bits .and .i32 c 63 = c % 64 := bits_mask .i32 31 (by decide) wraps_i32 6 (by decide) c h0 (by omega)
theorem i32_or_hi {x y : Int} (i : Nat) (hx₀ : 0 ≤ x) (hx : x % 2 ^ i = 0) (hx₁ : x < 2147483648) (hy₀ : 0 ≤ y) (hy : y < 2 ^ i) (hy₁ : y < 2147483648) : Go.bits .or .i32 x y = x + y := bits_join .i32 31 (by decide) wraps_i32 i x y hx₀ hx (by omega) hy₀ hy (by omega)
theorem low6 {c : Int} (h0 : 0 ≤ c) (h1 : c < 2147483648) : (Go.bits .or .i32 128 (Go.bits .and .i32 c 63)) % 256 = 128 + c % 64 := by
  rw [i32_and63 h0 h1, i32_or_hi 6 (by omega) (by decide) (by omega) (by omega) (by omega) (by omega)]; omega
theorem form_ref {c : Int} (h : validS c = true) : endonymref3_Form.f c = some (formS c) := by
  rw [valid_iff] at h
  have e1 : wrap32 (c / 64) = c / 64 := w32 (by omega) (by omega)
  have e2 : wrap32 (c / 4096) = c / 4096 := w32 (by omega) (by omega)
  have e3 : wrap32 (c / 262144) = c / 262144 := w32 (by omega) (by omega)
  unfold endonymref3_Form.f formS
  rw [Int.tdiv_eq_ediv_of_nonneg h.1, Int.tdiv_eq_ediv_of_nonneg h.1, Int.tdiv_eq_ediv_of_nonneg h.1, e1, e2, e3, Int.tmod_eq_emod_of_nonneg h.1, Int.tmod_eq_emod_of_nonneg (by omega : 0 ≤ c / 64), Int.tmod_eq_emod_of_nonneg (by omega : 0 ≤ c / 4096)]
  rw [w32 (x := 128 + c % 64) (by omega) (by omega), w32 (x := 128 + c / 64 % 64) (by omega) (by omega), w32 (x := 128 + c / 4096 % 64) (by omega) (by omega), w32 (x := 192 + c / 64) (by omega) (by omega), w32 (x := 224 + c / 4096) (by omega) (by omega), w32 (x := 240 + c / 262144) (by omega) (by omega)]
  by_cases c1 : c < 128
  · rw [if_pos c1, if_pos c1]; congr 2; omega
  rw [if_neg c1, if_neg c1]
  by_cases c2 : c < 2048
  · rw [if_pos c2, if_pos c2]; congr 2; · omega
    congr 1; omega
  rw [if_neg c2, if_neg c2]
  by_cases c3 : c < 65536
  · rw [if_pos c3, if_pos c3]; congr 2; · omega
    congr 1; · omega
    congr 1; omega
  rw [if_neg c3, if_neg c3]
  congr 2; · omega
  congr 1; · omega
  congr 1; · omega
  congr 1; omega
theorem enc_prog (l : List Int) (hl : l.length ≤ 4194304) : ∀ (n i : Nat) (acc : List Int) (k : Nat), i + n = l.length → acc.length ≤ 4 * i → n + 1 ≤ k →
    scalar_Encode.l0 k acc l (l.length : Int) (i : Int) = some (finE acc (enc (l.drop i) i)) := by
  intro n
  induction n with
  | zero =>
    intro i acc k hi ha hk
    obtain ⟨k, rfl⟩ : ∃ m, k = m + 1 := ⟨k - 1, by omega⟩
    rw [drop_all _ _ (by omega), scalar_Encode.l0, if_neg (by omega)]
    simp [enc, finE]
  | succ n ih =>
    intro i acc k hi ha hk
    obtain ⟨k, rfl⟩ : ∃ m, k = m + 1 := ⟨k - 1, by omega⟩
    have e : wrap64 ((i : Int) + 1) = ((i + 1 : Nat) : Int) := by rw [w64 (by omega) (by omega)]; rfl
    rw [drop_rd l i (by omega), scalar_Encode.l0, if_pos (by omega), if_pos (by omega), if_pos (by omega), e]
    generalize rd l (i : Int) = c
    rw [Valid_prog]
    simp only [Option.bind_some, enc]
    by_cases hv : validS c = true
    · rw [if_pos hv, if_pos hv, finE_conc]
      have hv' := valid_iff.1 hv
      have fl := form_len c
      have next : scalar_Encode.l0 k (acc ++ formS c) l (l.length : Int) ((i + 1 : Nat) : Int) = some (finE (acc ++ formS c) (enc (l.drop (i + 1)) (i + 1))) := ih (i + 1) _ k (by omega) (by simp; omega) (by omega)
      by_cases c1 : c < 128
      · have hf : formS c = [c] := by unfold formS; rw [if_pos c1]
        rw [hf] at next ⊢
        rw [if_pos c1, if_pos (by omega), show c % 256 = c by omega]; exact next
      rw [if_neg c1]
      by_cases c2 : c < 2048
      · have hf : formS c = [192 + c / 64, 128 + c % 64] := by unfold formS; rw [if_neg c1, if_pos c2]
        rw [hf] at next ⊢
        rw [if_pos c2, low6 (by omega) (by omega), i32_or_hi 5 (by omega) (by decide) (by omega) (by omega) (by omega) (by omega), show (192 + c / 64) % 256 = 192 + c / 64 by omega]
        simp only [List.length_cons, List.length_nil]
        rw [if_pos (by omega)]; exact next
      rw [if_neg c2]
      by_cases c3 : c < 65536
      · have hf : formS c = [224 + c / 4096, 128 + c / 64 % 64, 128 + c % 64] := by unfold formS; rw [if_neg c1, if_neg c2, if_pos c3]
        rw [hf] at next ⊢
        rw [if_pos c3, low6 (by omega) (by omega), low6 (by omega) (by omega), i32_or_hi 4 (by omega) (by decide) (by omega) (by omega) (by omega) (by omega), show (224 + c / 4096) % 256 = 224 + c / 4096 by omega]
        simp only [List.length_cons, List.length_nil]
        rw [if_pos (by omega)]; exact next
      rw [if_neg c3]
      have hf : formS c = [240 + c / 262144, 128 + c / 4096 % 64, 128 + c / 64 % 64, 128 + c % 64] := by unfold formS; rw [if_neg c1, if_neg c2, if_neg c3]
      rw [hf] at next ⊢
      rw [low6 (by omega) (by omega), low6 (by omega) (by omega), low6 (by omega) (by omega), i32_or_hi 3 (by omega) (by decide) (by omega) (by omega) (by omega) (by omega), show (240 + c / 262144) % 256 = 240 + c / 262144 by omega]
      simp only [List.length_cons, List.length_nil]
      rw [if_pos (by omega)]; exact next
    · rw [if_neg hv, if_neg hv]; rfl
theorem enc_ref (l : List Int) (hl : l.length ≤ 4194304) : ∀ (n i : Nat) (acc : List Int) (k : Nat), i + n = l.length → acc.length ≤ 4 * i → n + 1 ≤ k →
    endonymref3_Encode.l0 k l acc (i : Int) = some (finE acc (enc (l.drop i) i)) := by
  intro n
  induction n with
  | zero =>
    intro i acc k hi ha hk
    obtain ⟨k, rfl⟩ : ∃ m, k = m + 1 := ⟨k - 1, by omega⟩
    rw [drop_all _ _ (by omega), endonymref3_Encode.l0, if_neg (by omega)]
    simp [enc, finE]
  | succ n ih =>
    intro i acc k hi ha hk
    obtain ⟨k, rfl⟩ : ∃ m, k = m + 1 := ⟨k - 1, by omega⟩
    have e : wrap64 ((i : Int) + 1) = ((i + 1 : Nat) : Int) := by rw [w64 (by omega) (by omega)]; rfl
    rw [drop_rd l i (by omega), endonymref3_Encode.l0, if_pos (by omega), if_pos (by omega), e]
    generalize rd l (i : Int) = c
    rw [Valid_ref]
    simp only [Option.bind_some, enc]
    by_cases hv : validS c = true
    · have fl := form_len c
      rw [if_pos hv, if_pos hv, finE_conc, form_ref hv]
      simp only [Option.bind_some]
      rw [if_pos (by omega)]
      exact ih (i + 1) _ k (by omega) (by simp; omega) (by omega)
    · rw [if_neg hv, if_neg hv]; rfl
theorem Encode_ok (l : List Int) (hl : l.length ≤ 4194304) (k : Nat) (hk : l.length + 1 ≤ k) : scalar_Encode.f k l = some (finE [] (enc l 0)) := by
  unfold scalar_Encode.f; exact enc_prog l hl l.length 0 [] k (by omega) (by simp) hk
theorem EncodeR_ok (l : List Int) (hl : l.length ≤ 4194304) (k : Nat) (hk : l.length + 1 ≤ k) : endonymref3_Encode.f k l = some (finE [] (enc l 0)) := by
  unfold endonymref3_Encode.f; exact enc_ref l hl l.length 0 [] k (by omega) (by simp) hk
theorem enc_bytes : ∀ (l : List Int) (i : Nat) (out : List Int), enc l i = .inr out → (∀ b ∈ out, 0 ≤ b ∧ b ≤ 255) ∧ out.length ≤ 4 * l.length ∧ (∀ c ∈ l, validS c = true)
  | [], i, out, h => by simp only [enc, Sum.inr.injEq] at h; subst h; simp
  | c :: cs, i, out, h => by
    simp only [enc] at h
    by_cases hv : validS c = true
    · rw [if_pos hv] at h
      cases hr : enc cs (i + 1) with
      | inl j => rw [hr] at h; cases h
      | inr o =>
        rw [hr] at h
        simp only [conc, Sum.inr.injEq] at h
        subst h
        obtain ⟨h1, h2, h3⟩ := enc_bytes cs (i + 1) o hr
        have fl := form_len c
        refine ⟨fun b hb => ?_, by simp; omega, fun d hd => ?_⟩
        · rcases List.mem_append.1 hb with hb | hb
          · exact form_bytes hv b hb
          · exact h1 b hb
        · rcases List.mem_cons.1 hd with rfl | hd
          · exact hv
          · exact h3 d hd
    · rw [if_neg hv] at h; cases h
end Go.Proofs.Ytplnakmpogepmaa.Plain
