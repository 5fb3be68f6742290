import Derived.Test.YtplnakmpogepmaaScalarRef
import Derived.Test.YtplnakmpogepmaaAx3
/-! told, Same; ScalarDecodes. -/
namespace Go.Proofs.Ytplnakmpogepmaa.Plain
open Go.RowKit Go.Proofs.YtplnakmpogepmaaW.PrintWords Go.Proofs.YtplnakmpogepmaaW.PrintLast Go.Proofs.YtplnakmpogepmaaW.PrintMore Go.Proofs.Ytplnakmpogepmaa.A
set_option linter.unusedVariables false
set_option linter.unusedSimpArgs false

theorem same_loop (l : List Int) (hl : l.length ≤ 16777216) : ∀ (n i k : Nat), i + n = l.length → n + 1 ≤ k → endonymref3_Same.l0 k l l (i : Int) = some true := by
  intro n
  induction n with
  | zero =>
    intro i k hi hk
    obtain ⟨k, rfl⟩ : ∃ m, k = m + 1 := ⟨k - 1, by omega⟩
    rw [endonymref3_Same.l0, if_neg (by omega)]
  | succ n ih =>
    intro i k hi hk
    obtain ⟨k, rfl⟩ : ∃ m, k = m + 1 := ⟨k - 1, by omega⟩
    have e : wrap64 ((i : Int) + 1) = ((i + 1 : Nat) : Int) := by rw [w64 (by omega) (by omega)]; rfl
    rw [endonymref3_Same.l0, if_pos (by omega), if_pos (by omega), if_pos (by omega), if_pos rfl, e]
    exact ih (i + 1) k (by omega) (by omega)
theorem Same_eq (l : List Int) (hl : l.length ≤ 16777216) (k : Nat) (hk : l.length + 1 ≤ k) : endonymref3_Same.f k l l = some true := by
  unfold endonymref3_Same.f
  rw [if_pos rfl]
  exact same_loop l hl l.length 0 k (by omega) hk
theorem told_ok (k : Nat) (hk : 20 ≤ k) : endonymlaw3_told.f k = some true := at_rounds endonymlaw3_told.mono hk (by decide +kernel)
theorem feed_len : ∀ (bs : List Int) (m : Nat) (lo hi c : Int) (p : Nat), match feed m lo hi c bs p with | .inl q => p ≤ q ∧ q < p + bs.length | .inr (_, out) => out.length ≤ bs.length
  | [], m, lo, hi, c, p => by simp [feed]
  | b :: bs, 0, lo, hi, c, p => by
    simp only [feed]
    cases hL : leadS b with
    | none => simp
    | some q =>
      obtain ⟨m, lo', hi', c'⟩ := q
      cases m with
      | zero =>
        simp only
        have h := feed_len bs 0 0 0 0 (p + 1)
        cases hf : feed 0 0 0 0 bs (p + 1) with
        | inl q => rw [hf] at h; simp only [emit, List.length_cons] at h ⊢; omega
        | inr q => rw [hf] at h; obtain ⟨st, out⟩ := q; simp only [emit, List.length_cons] at h ⊢; omega
      | succ m =>
        simp only
        have h := feed_len bs (m + 1) lo' hi' c' (p + 1)
        cases hf : feed (m + 1) lo' hi' c' bs (p + 1) with
        | inl q => rw [hf] at h; simp only [List.length_cons] at h ⊢; omega
        | inr q => rw [hf] at h; obtain ⟨st, out⟩ := q; simp only [List.length_cons] at h ⊢; omega
  | b :: bs, m + 1, lo, hi, c, p => by
    by_cases hn : b < lo ∨ hi < b
    · have e : feed (m + 1) lo hi c (b :: bs) p = .inl p := feed_bad m lo hi c b bs p hn
      rw [e]; simp
    · rw [feed_succ m lo hi c b bs p hn]
      cases m with
      | zero =>
        simp only
        have h := feed_len bs 0 0 0 0 (p + 1)
        cases hf : feed 0 0 0 0 bs (p + 1) with
        | inl q => rw [hf] at h; simp only [emit, List.length_cons] at h ⊢; omega
        | inr q => rw [hf] at h; obtain ⟨st, out⟩ := q; simp only [emit, List.length_cons] at h ⊢; omega
      | succ m =>
        simp only
        have h := feed_len bs (m + 1) 128 191 (c * 64 + b % 64) (p + 1)
        cases hf : feed (m + 1) 128 191 (c * 64 + b % 64) bs (p + 1) with
        | inl q => rw [hf] at h; simp only [List.length_cons] at h ⊢; omega
        | inr q => rw [hf] at h; obtain ⟨st, out⟩ := q; simp only [List.length_cons] at h ⊢; omega
theorem dec_len (bs : List Int) : (dec bs).1.length ≤ bs.length ∧ 0 ≤ (dec bs).2.1 ∧ (dec bs).2.1 ≤ bs.length := by
  unfold dec
  have h := feed_len bs 0 0 0 0 0
  cases hf : feed 0 0 0 0 bs 0 with
  | inl q => rw [hf] at h; simp only [fin] at h ⊢; simp; omega
  | inr q =>
    rw [hf] at h
    obtain ⟨⟨m, lo, hi, c⟩, out⟩ := q
    cases m <;> simp only [fin] at h ⊢ <;> simp <;> omega
theorem decodes_loop (y z : List Int) (hy : y.length ≤ 16777216) (hz : z = y) : ∀ (n i : Nat) (x : List Int) (k : Nat), x.length = y.length → i + n = x.length → n + y.length + 2 ≤ k →
    endonymlaw3_ScalarDecodes.l0 k x y z true (i : Int) = some true := by
  intro n
  induction n with
  | zero =>
    intro i x k hx hi hk
    obtain ⟨k, rfl⟩ : ∃ m, k = m + 1 := ⟨k - 1, by omega⟩
    rw [endonymlaw3_ScalarDecodes.l0, if_neg (by omega), if_pos rfl, if_pos (by omega), if_pos (by simp; omega), hz, Same_eq y hy k (by omega)]
    rfl
  | succ n ih =>
    intro i x k hx hi hk
    obtain ⟨k, rfl⟩ : ∃ m, k = m + 1 := ⟨k - 1, by omega⟩
    have e : wrap64 ((i : Int) + 1) = ((i + 1 : Nat) : Int) := by rw [w64 (by omega) (by omega)]; rfl
    rw [endonymlaw3_ScalarDecodes.l0, if_pos (by omega), if_pos (by omega), e]
    exact ih (i + 1) _ k (by simp; omega) (by simp; omega) (by omega)
theorem law_decodes (s : ByteArray) (hs : s.size ≤ 1048576) : ∃ k, endonymlaw3_ScalarDecodes.f k s = some true := by
  have h1 := Decode_ok s (by omega)
  have h2 := DecodeR_ok s (by omega)
  have hl := (dec_len (bytesOf s)).1
  rw [← sz] at hl
  generalize dec (bytesOf s) = d at h1 h2 hl
  refine ⟨3 * s.size + 30, ?_⟩
  unfold endonymlaw3_ScalarDecodes.f
  rw [h1 _ (by omega), h2 _ (by omega), told_ok _ (by omega)]
  simp only [Option.bind_some, if_true]
  rw [Same_eq d.1 (by omega) _ (by omega)]
  simp only [Option.bind_some, if_true]
  obtain ⟨k, hk⟩ : ∃ k, 3 * s.size + 30 = k + 1 := ⟨3 * s.size + 29, by omega⟩
  rw [hk, endonymlaw3_ScalarDecodes.j0, beq_self_eq_true]
  exact decodes_loop d.1 d.1 (by omega) rfl d.1.length 0 d.1 k rfl (by omega) (by omega)
end Go.Proofs.Ytplnakmpogepmaa.Plain
