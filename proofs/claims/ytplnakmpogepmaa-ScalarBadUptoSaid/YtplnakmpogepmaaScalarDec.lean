import Derived.Test.YtplnakmpogepmaaScalarSpec
import Derived.Laws.BitsAllLaws
import Derived.Test.YtplnakmpogepmaaAx1
/-! The program's and the document's Decode are the machine of states. -/
namespace Go.Proofs.Ytplnakmpogepmaa.Plain
open Go.RowKit Go.Proofs.YtplnakmpogepmaaW.PrintWords Go.Proofs.YtplnakmpogepmaaW.PrintLast Go.Proofs.YtplnakmpogepmaaW.PrintMore Go.Proofs.Ytplnakmpogepmaa.A
set_option linter.unusedVariables false
set_option linter.unusedSimpArgs false

theorem i64_low {n : Int} (j : Nat) (hj : j ≤ 8) (h0 : 0 ≤ n) (h1 : n ≤ 255) : Go.bits .and .i64 n (2 ^ j - 1) = n % 2 ^ j :=
  bits_mask .i64 8 (by decide) (fun n h0 h1 => by rw [IntKind.wrap_i64]; omega) j hj n h0 (by omega)
theorem lead_prog (b : Int) (h0 : 0 ≤ b) (h1 : b ≤ 255) : scalar_lead.f b = some (match leadS b with | none => (-1, 0, 0, 0) | some (m, lo, hi, c) => ((m : Int), lo, hi, c)) := by
  have e31 : Go.bits .and .i64 b 31 = b % 32 := i64_low 5 (by decide) h0 h1
  have e15 : Go.bits .and .i64 b 15 = b % 16 := i64_low 4 (by decide) h0 h1
  have e7 : Go.bits .and .i64 b 7 = b % 8 := i64_low 3 (by decide) h0 h1
  unfold scalar_lead.f leadS
  rw [e31, e15, e7, w32 (by omega) (by omega), w32 (by omega) (by omega), w32 (by omega) (by omega), w32 (by omega) (by omega)]
  by_cases c1 : b < 128
  · rw [if_pos c1, if_pos c1]; rfl
  rw [if_neg c1, if_neg c1]
  by_cases c2 : b < 194
  · rw [if_pos c2, if_pos c2]
  rw [if_neg c2, if_neg c2]
  by_cases c3 : b < 224
  · rw [if_pos c3, if_pos c3]; rfl
  rw [if_neg c3, if_neg c3]
  by_cases c4 : b = 224
  · rw [if_pos c4, if_pos c4]; rfl
  rw [if_neg c4, if_neg c4]
  by_cases c5 : b = 237
  · rw [if_pos c5, if_pos c5]; rfl
  rw [if_neg c5, if_neg c5]
  by_cases c6 : b < 240
  · rw [if_pos c6, if_pos c6]; rfl
  rw [if_neg c6, if_neg c6]
  by_cases c7 : b = 240
  · rw [if_pos c7, if_pos c7]; rfl
  rw [if_neg c7, if_neg c7]
  by_cases c8 : b < 244
  · rw [if_pos c8, if_pos c8]; rfl
  rw [if_neg c8, if_neg c8]
  by_cases c9 : b = 244
  · rw [if_pos c9, if_pos c9]; rfl
  rw [if_neg c9, if_neg c9]
theorem u8_low6 {n : Int} (h0 : 0 ≤ n) (h1 : n ≤ 255) : Go.bits .and .u8 n 63 = n % 64 := u8_and63 n h0 (by omega)
theorem join6 {c b : Int} (h0 : 0 ≤ c) (h1 : c < 32768) (hb : 0 ≤ b ∧ b ≤ 255) : Go.bits .or .i32 (wrap32 (c * 64)) (wrap32 (Go.bits .and .u8 b 63)) = c * 64 + b % 64 := by
  rw [u8_low6 hb.1 hb.2, w32 (by omega) (by omega), w32 (by omega) (by omega)]
  exact i32_or6 (c * 64) (b % 64) (by omega) (by omega) (by omega) (by omega) (by omega)
theorem dec_prog (s : ByteArray) (hs : s.size ≤ 4194304) : ∀ (n i : Nat) (acc : List Int) (k : Nat), i + n = s.size → acc.length ≤ i → 2 * n + 2 ≤ k →
    scalar_Decode.l0 k s acc (i : Int) = some (fin s.size acc (feed 0 0 0 0 ((bytesOf s).drop i) i)) ∧
    ∀ (m : Nat) (lo hi c : Int), Ok (m + 1) lo hi c → scalar_Decode.l1 k s acc (i : Int) ((m + 1 : Nat) : Int) lo hi c = some (fin s.size acc (feed (m + 1) lo hi c ((bytesOf s).drop i) i)) := by
  intro n
  induction n with
  | zero =>
    intro i acc k hi ha hk
    obtain ⟨k, rfl⟩ : ∃ m, k = m + 1 := ⟨k - 1, by omega⟩
    have hd : (bytesOf s).drop i = [] := drop_all _ _ (by rw [← sz]; omega)
    have hi' : i = s.size := by omega
    rw [hd]
    constructor
    · rw [scalar_Decode.l0]
      rw [if_pos (by omega)]
      simp [feed, fin]
    · intro m lo hi c _
      rw [scalar_Decode.l1]
      rw [if_neg (by omega), if_pos (by omega)]
      simp [feed, fin, hi']
  | succ n ih =>
    intro i acc k hi ha hk
    obtain ⟨k, rfl⟩ : ∃ m, k = m + 2 := ⟨k - 2, by omega⟩
    have hl : i < (bytesOf s).length := by rw [← sz]; omega
    have hb : 0 ≤ rd (bytesOf s) (i : Int) ∧ rd (bytesOf s) (i : Int) ≤ 255 := by rw [rd_nat _ _ hl]; exact byte_mem s _ (List.getElem_mem _)
    have e1 : wrap64 ((i : Int) + 1) = ((i + 1 : Nat) : Int) := by rw [w64 (by omega) (by omega)]; rfl
    rw [drop_rd _ i hl]
    have hbt : bt s (i : Int) = rd (bytesOf s) (i : Int) := bt_rd s _
    generalize rd (bytesOf s) (i : Int) = b at hb hbt
    have ewb : wrap64 (bt s (i : Int)) = b := by rw [hbt, w64 (by omega) (by omega)]
    constructor
    · rw [scalar_Decode.l0]
      rw [if_neg (by omega), if_pos (by omega), if_pos (by omega), ewb, lead_prog b hb.1 hb.2]
      simp only [Option.bind_some, feed]
      cases hL : leadS b with
      | none => simp [fin]
      | some q =>
        obtain ⟨m, lo, hi', c⟩ := q
        have hok := lead_ok hb.1 hL
        cases m with
        | zero =>
          simp only
          rw [if_neg (by simp), e1, fin_emit]
          rw [scalar_Decode.l1]
          rw [if_pos (by simp), if_pos (by omega)]
          exact (ih (i + 1) (acc ++ [c]) k (by omega) (by simp; omega) (by omega)).1
        | succ m =>
          simp only
          rw [if_neg (by omega), e1]
          exact (ih (i + 1) acc (k + 1) (by omega) (by omega) (by omega)).2 m lo hi' c hok
    · intro m lo hi' c hok
      rw [scalar_Decode.l1]
      rw [if_neg (by omega), if_neg (by omega), if_pos (by omega), if_pos (by omega), ewb]
      simp only [feed]
      have hc : 0 ≤ c ∧ c < 32768 := by unfold Ok at hok; omega
      have hm3 : m ≤ 2 := by unfold Ok at hok; omega
      by_cases h1 : b < lo
      · rw [if_pos h1, if_pos (.inl h1)]; simp [fin]
      · rw [if_neg h1]
        by_cases h2 : hi' < b
        · rw [if_pos h2, if_pos (.inr h2)]; simp [fin]
        · rw [if_neg h2, if_neg (fun h => h.elim h1 h2), hbt, join6 hc.1 hc.2 hb, e1]
          have e2 : wrap64 (((m + 1 : Nat) : Int) - 1) = (m : Int) := by rw [w64 (by omega) (by omega)]; omega
          rw [e2]
          cases m with
          | zero =>
            simp only
            rw [fin_emit]
            rw [scalar_Decode.l1]
            rw [if_pos (by simp), if_pos (by omega)]
            exact (ih (i + 1) (acc ++ [c * 64 + b % 64]) k (by omega) (by simp; omega) (by omega)).1
          | succ m =>
            simp only
            exact (ih (i + 1) acc (k + 1) (by omega) (by omega) (by omega)).2 m 128 191 (c * 64 + b % 64) (next_ok hb.1 hok)
theorem Decode_ok (s : ByteArray) (hs : s.size ≤ 4194304) (k : Nat) (hk : 2 * s.size + 2 ≤ k) : scalar_Decode.f k s = some (dec (bytesOf s)) := by
  have h := (dec_prog s hs s.size 0 [] k (by omega) (by simp) hk).1
  unfold scalar_Decode.f dec
  rw [← sz]
  exact h
end Go.Proofs.Ytplnakmpogepmaa.Plain
