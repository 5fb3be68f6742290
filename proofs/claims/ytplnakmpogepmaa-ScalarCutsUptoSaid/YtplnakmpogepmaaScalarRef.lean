import Derived.Test.YtplnakmpogepmaaScalarDec
import Derived.Test.YtplnakmpogepmaaAx2
import Derived.Test.YtplnakmpogepmaaAx1
/-! The document's Decode is the machine of states. -/
namespace Go.Proofs.Ytplnakmpogepmaa.Plain
open Go.RowKit Go.Proofs.YtplnakmpogepmaaW.PrintWords Go.Proofs.YtplnakmpogepmaaW.PrintLast Go.Proofs.YtplnakmpogepmaaW.PrintMore Go.Proofs.Ytplnakmpogepmaa.A
set_option linter.unusedVariables false
set_option linter.unusedSimpArgs false

/-- The document's lead: how many follow, the bounds. -/
def leadR (b : Int) : Int × Int × Int := match leadS b with | none => (-1, 0, 0) | some (m, lo, hi, _) => ((m : Int), lo, hi)
theorem lead_ref (b : Int) (h0 : 0 ≤ b) (h1 : b ≤ 255) (k : Nat) (hk : 3 ≤ k) : endonymref3_lead.f k b = some (leadR b) := by
  obtain ⟨k, rfl⟩ : ∃ m, k = m + 3 := ⟨k - 3, by omega⟩
  unfold endonymref3_lead.f leadR leadS
  by_cases c1 : b < 128
  · rw [if_pos c1, if_pos c1]; rfl
  rw [if_neg c1, if_neg c1]
  by_cases c2 : b < 194
  · rw [if_pos c2, if_neg (by omega)]
    rw [endonymref3_lead.j0, if_neg (by simp), if_neg (by omega), if_neg (by omega), if_neg (by omega), endonymref3_lead.j1, if_neg (by simp), if_neg (by omega), if_neg (by omega), endonymref3_lead.j2, if_neg (by simp), if_neg (by omega)]
  rw [if_neg c2, if_pos (by omega)]
  by_cases c3 : b < 224
  · rw [if_pos c3, endonymref3_lead.j0, if_pos (by simp; omega)]; rfl
  rw [if_neg c3, endonymref3_lead.j0, if_neg (by simp; omega)]
  by_cases c4 : b = 224
  · rw [if_pos c4, if_pos c4]; rfl
  rw [if_neg c4, if_neg c4]
  by_cases c5 : b = 237
  · rw [if_pos c5, if_pos c5]; rfl
  rw [if_neg c5, if_neg c5, if_pos (by omega)]
  by_cases c6 : b < 240
  · rw [if_pos c6, endonymref3_lead.j1, if_pos (by simp; omega)]; rfl
  rw [if_neg c6, endonymref3_lead.j1, if_neg (by simp; omega)]
  by_cases c7 : b = 240
  · rw [if_pos c7, if_pos c7]; rfl
  rw [if_neg c7, if_neg c7, if_pos (by omega)]
  by_cases c8 : b < 244
  · rw [if_pos c8, endonymref3_lead.j2, if_pos (by simp; omega)]; rfl
  rw [if_neg c8, endonymref3_lead.j2, if_neg (by simp; omega)]
  by_cases c9 : b = 244
  · rw [if_pos c9, if_pos c9]; rfl
  rw [if_neg c9, if_neg c9]
/-- Of a byte of whose kind some follow: its own bits are the rest by 2^(6-n). -/
theorem lead_bits {b : Int} (h0 : 0 ≤ b) {m : Nat} {lo hi c : Int} (h : leadS b = some (m + 1, lo, hi, c)) :
    m ≤ 2 ∧ shl .i32 1 (IntKind.u64.wrap (wrap64 (6 - ((m + 1 : Nat) : Int)))) = 2 ^ (5 - m) ∧ Int.tmod b (2 ^ (5 - m)) = c ∧ 0 ≤ IntKind.u64.wrap (wrap64 (6 - ((m + 1 : Nat) : Int))) := by
  have hm : m = 0 ∨ m = 1 ∨ m = 2 := by have := lead_ok h0 h; unfold Ok at this; omega
  rcases hm with rfl | rfl | rfl
  · refine ⟨by omega, by decide +kernel, ?_, by decide +kernel⟩
    unfold leadS at h
    rw [Int.tmod_eq_emod_of_nonneg h0]
    repeat' split at h
    all_goals first | (cases h; done) | (simp only [Option.some.injEq, Prod.mk.injEq] at h; omega)
  · refine ⟨by omega, by decide +kernel, ?_, by decide +kernel⟩
    unfold leadS at h
    rw [Int.tmod_eq_emod_of_nonneg h0]
    repeat' split at h
    all_goals first | (cases h; done) | (simp only [Option.some.injEq, Prod.mk.injEq] at h; omega)
  · refine ⟨by omega, by decide +kernel, ?_, by decide +kernel⟩
    unfold leadS at h
    rw [Int.tmod_eq_emod_of_nonneg h0]
    repeat' split at h
    all_goals first | (cases h; done) | (simp only [Option.some.injEq, Prod.mk.injEq] at h; omega)
theorem step6 {c b : Int} (h0 : 0 ≤ c) (h1 : c < 32768) (hb : 0 ≤ b ∧ b ≤ 255) : wrap32 (wrap32 (c * 64) + Int.tmod (wrap32 b) 64) = c * 64 + b % 64 := by
  rw [w32 (x := b) (by omega) (by omega), Int.tmod_eq_emod_of_nonneg hb.1, w32 (x := c * 64) (by omega) (by omega), w32 (by omega) (by omega)]
/-- What both loops of the document's Decode come to from place i on. -/
def RefL0 (s : ByteArray) (i : Nat) (acc : List Int) (k : Nat) : Prop := endonymref3_Decode.l0 k s acc (i : Int) = some (fin s.size acc (feed 0 0 0 0 ((bytesOf s).drop i) i))
def RefL1 (s : ByteArray) (i : Nat) (acc : List Int) (k : Nat) : Prop := ∀ (i0 j m : Nat) (lo hi c lo1 hi1 : Int), i0 + (j + 1) = i → acc.length ≤ i0 → Ok (m + 1) lo1 hi1 c → ((j = 0 ∧ lo = lo1 ∧ hi = hi1) ∨ (0 < j ∧ lo1 = 128 ∧ hi1 = 191)) →
      endonymref3_Decode.l1 k s acc (i0 : Int) ((j + m + 1 : Nat) : Int) lo hi c ((j + 1 : Nat) : Int) = some (fin s.size acc (feed (m + 1) lo1 hi1 c ((bytesOf s).drop i) i))
theorem ref_zero (s : ByteArray) (hs : s.size ≤ 4194304) (i : Nat) (acc : List Int) (k : Nat) (hi : i = s.size) : RefL0 s i acc (k + 1) ∧ RefL1 s i acc (k + 1) := by
  have hd : (bytesOf s).drop i = [] := drop_all _ _ (by rw [← sz]; omega)
  unfold RefL0 RefL1
  rw [hd]
  constructor
  · rw [endonymref3_Decode.l0, if_neg (by omega)]
    simp [feed, fin]
  · intro i0 j m lo hi' c lo1 hi1 e1 _ hok _
    have e2 : wrap64 ((i0 : Int) + ((j + 1 : Nat) : Int)) = (i : Int) := by rw [w64 (by omega) (by omega)]; omega
    rw [endonymref3_Decode.l1, if_pos (by omega), e2, if_pos (by omega)]
    simp [feed, fin]
theorem lead_pow (m : Nat) (hm : m ≤ 2) : ¬ ((2 : Int) ^ (5 - m) = 0) := by
  have : m = 0 ∨ m = 1 ∨ m = 2 := by omega
  rcases this with rfl | rfl | rfl <;> decide
theorem ref_l0 (s : ByteArray) (hs : s.size ≤ 4194304) (i : Nat) (acc : List Int) (k : Nat) (hi : i < s.size) (ha : acc.length ≤ i) (hk : 3 ≤ k) (ih0 : ∀ acc, acc.length ≤ i + 1 → RefL0 s (i + 1) acc k) (ih1 : RefL1 s (i + 1) acc (k + 1)) : RefL0 s i acc (k + 3) := by
  unfold RefL0
  have hl : i < (bytesOf s).length := by rw [← sz]; omega
  have hb : 0 ≤ rd (bytesOf s) (i : Int) ∧ rd (bytesOf s) (i : Int) ≤ 255 := by rw [rd_nat _ _ hl]; exact byte_mem s _ (List.getElem_mem _)
  rw [drop_rd _ i hl]
  have hbt : bt s (i : Int) = rd (bytesOf s) (i : Int) := bt_rd s _
  generalize rd (bytesOf s) (i : Int) = b at hb hbt
  have e9 : wrap32 b = b := w32 (by omega) (by omega)
  rw [endonymref3_Decode.l0, if_pos (by omega), if_pos (by omega), hbt, lead_ref b hb.1 hb.2 _ (by omega)]
  simp only [Option.bind_some, feed, leadR]
  cases hL : leadS b with
  | none => simp [fin]
  | some q =>
    obtain ⟨m, lo, hi', c⟩ := q
    have hok := lead_ok hb.1 hL
    cases m with
    | zero =>
      have e3 : wrap64 (wrap64 ((i : Int) + ((0 : Nat) : Int)) + 1) = ((i + 1 : Nat) : Int) := by rw [w64 (x := (i : Int) + ((0 : Nat) : Int)) (by omega) (by omega), w64 (by omega) (by omega)]; omega
      have e4 : c = b := by
        unfold leadS at hL
        repeat' split at hL
        all_goals first | (cases hL; done) | (simp only [Option.some.injEq, Prod.mk.injEq] at hL; omega)
      simp only
      rw [if_neg (by simp), if_neg (by simp), fin_emit, endonymref3_Decode.j1, endonymref3_Decode.l1, if_neg (by simp), if_pos (by omega), e3, e9, e4]
      exact ih0 (acc ++ [b]) (by simp; omega)
    | succ m =>
      obtain ⟨hm, e5, e6, e7⟩ := lead_bits hb.1 hL
      have e10 := lead_pow m hm
      simp only
      rw [if_neg (by omega), if_pos (by omega), if_pos e7, e5, if_neg e10, e9, e6, endonymref3_Decode.j1]
      have h := ih1 i 0 m lo hi' c lo hi' rfl ha hok (.inl ⟨rfl, rfl, rfl⟩)
      rw [show 0 + m + 1 = m + 1 by omega] at h
      exact h
theorem feed_succ (m : Nat) (lo hi c b : Int) (bs : List Int) (p : Nat) (h : ¬ (b < lo ∨ hi < b)) : feed (m + 1) lo hi c (b :: bs) p = match m with
          | 0 => emit (c * 64 + b % 64) (feed 0 0 0 0 bs (p + 1))
          | m' + 1 => feed (m' + 1) 128 191 (c * 64 + b % 64) bs (p + 1) := by cases m <;> simp [feed, h]
theorem feed_bad (m : Nat) (lo hi c b : Int) (bs : List Int) (p : Nat) (h : b < lo ∨ hi < b) : feed (m + 1) lo hi c (b :: bs) p = .inl p := by cases m <;> simp [feed, h]
theorem ref_next (s : ByteArray) (hs : s.size ≤ 4194304) (i : Nat) (acc : List Int) (k : Nat) (hi : i < s.size) (ih0 : ∀ acc, acc.length ≤ i + 1 → RefL0 s (i + 1) acc (k + 1)) (ih1 : RefL1 s (i + 1) acc (k + 2)) (i0 j m : Nat) (lo hi' c lo1 hi1 b : Int)
    (hb : 0 ≤ b) (e1 : i0 + (j + 1) = i) (ha0 : acc.length ≤ i0) (hok : Ok (m + 1) lo1 hi1 c) (hn : ¬ (b < lo1 ∨ hi1 < b)) :
    endonymref3_Decode.l1 (k + 2) s acc (i0 : Int) ((j + m + 1 : Nat) : Int) lo hi' (c * 64 + b % 64) ((j + 2 : Nat) : Int) = some (fin s.size acc (feed (m + 1) lo1 hi1 c (b :: (bytesOf s).drop (i + 1)) i)) := by
  rw [feed_succ _ _ _ _ _ _ _ hn]
  cases m with
  | zero =>
    have e3 : wrap64 (wrap64 ((i0 : Int) + ((j + 0 + 1 : Nat) : Int)) + 1) = ((i + 1 : Nat) : Int) := by rw [w64 (x := (i0 : Int) + ((j + 0 + 1 : Nat) : Int)) (by omega) (by omega), w64 (by omega) (by omega)]; omega
    simp only
    rw [fin_emit, endonymref3_Decode.l1, if_neg (by omega), if_pos (by omega), e3]
    exact ih0 (acc ++ [c * 64 + b % 64]) (by simp; omega)
  | succ m =>
    simp only
    have h := ih1 i0 (j + 1) m lo hi' (c * 64 + b % 64) 128 191 (by omega) ha0 (next_ok hb hok) (.inr ⟨by omega, rfl, rfl⟩)
    rw [show j + 1 + m + 1 = j + (m + 1) + 1 by omega] at h
    exact h
theorem ref_l1 (s : ByteArray) (hs : s.size ≤ 4194304) (i : Nat) (acc : List Int) (k : Nat) (hi : i < s.size) (ih0 : ∀ acc, acc.length ≤ i + 1 → RefL0 s (i + 1) acc (k + 1)) (ih1 : RefL1 s (i + 1) acc (k + 2)) : RefL1 s i acc (k + 3) := by
  unfold RefL1
  intro i0 j m lo hi' c lo1 hi1 e1 ha0 hok hj
  have hl : i < (bytesOf s).length := by rw [← sz]; omega
  have hb : 0 ≤ rd (bytesOf s) (i : Int) ∧ rd (bytesOf s) (i : Int) ≤ 255 := by rw [rd_nat _ _ hl]; exact byte_mem s _ (List.getElem_mem _)
  rw [drop_rd _ i hl]
  have hbt : bt s (i : Int) = rd (bytesOf s) (i : Int) := bt_rd s _
  generalize rd (bytesOf s) (i : Int) = b at hb hbt
  have e2 : wrap64 ((i0 : Int) + ((j + 1 : Nat) : Int)) = (i : Int) := by rw [w64 (by omega) (by omega)]; omega
  have hc : 0 ≤ c ∧ c < 32768 := by unfold Ok at hok; omega
  have hbd : 128 ≤ lo1 ∧ hi1 ≤ 191 := by unfold Ok at hok; omega
  have e8 : wrap64 (((j + 1 : Nat) : Int) + 1) = ((j + 2 : Nat) : Int) := by rw [w64 (by omega) (by omega)]; omega
  have next := ref_next s hs i acc k hi ih0 ih1 i0 j m lo hi' c lo1 hi1 b hb.1 e1 ha0 hok
  rw [endonymref3_Decode.l1, if_pos (by omega), e2, if_neg (by omega), if_pos (by omega), if_pos (by omega), hbt, step6 hc.1 hc.2 hb, e8]
  clear ih0 ih1 hbt
  rcases hj with ⟨hj, rfl, rfl⟩ | ⟨hj, rfl, rfl⟩
  · rw [if_pos (by omega)]
    by_cases h1 : b < lo
    · rw [if_pos h1, feed_bad _ _ _ _ _ _ _ (.inl h1)]; simp [fin]
    rw [if_neg h1]
    by_cases h2 : hi' < b
    · rw [if_pos h2, feed_bad _ _ _ _ _ _ _ (.inr h2)]; simp [fin]
    rw [if_neg h2, if_neg (by omega), if_neg (by omega)]
    exact next (fun h => h.elim h1 h2)
  · rw [if_neg (by omega)]
    by_cases h1 : b < 128
    · rw [if_pos h1, feed_bad _ _ _ _ _ _ _ (.inl h1)]; simp [fin]
    rw [if_neg h1]
    by_cases h2 : 191 < b
    · rw [if_pos h2, feed_bad _ _ _ _ _ _ _ (.inr h2)]; simp [fin]
    rw [if_neg h2]
    exact next (fun h => h.elim h1 h2)
theorem dec_ref (s : ByteArray) (hs : s.size ≤ 4194304) : ∀ (n i : Nat) (acc : List Int) (k : Nat), i + n = s.size → 3 * n + 4 ≤ k → (acc.length ≤ i → RefL0 s i acc k) ∧ RefL1 s i acc k := by
  intro n
  induction n with
  | zero =>
    intro i acc k hi hk
    obtain ⟨k, rfl⟩ : ∃ m, k = m + 1 := ⟨k - 1, by omega⟩
    exact ⟨fun _ => (ref_zero s hs i acc k (by omega)).1, (ref_zero s hs i acc k (by omega)).2⟩
  | succ n ih =>
    intro i acc k hi hk
    obtain ⟨k, rfl⟩ : ∃ m, k = m + 3 := ⟨k - 3, by omega⟩
    exact ⟨fun ha => ref_l0 s hs i acc k (by omega) ha (by omega) (fun acc ha => (ih (i + 1) acc k (by omega) (by omega)).1 ha) (ih (i + 1) acc (k + 1) (by omega) (by omega)).2,
      ref_l1 s hs i acc k (by omega) (fun acc ha => (ih (i + 1) acc (k + 1) (by omega) (by omega)).1 ha) (ih (i + 1) acc (k + 2) (by omega) (by omega)).2⟩
theorem DecodeR_ok (s : ByteArray) (hs : s.size ≤ 4194304) (k : Nat) (hk : 3 * s.size + 4 ≤ k) : endonymref3_Decode.f k s = some (dec (bytesOf s)) := by
  have h := (dec_ref s hs s.size 0 [] k (by omega) hk).1 (by simp)
  unfold RefL0 at h
  unfold endonymref3_Decode.f dec
  rw [← sz]
  exact h
end Go.Proofs.Ytplnakmpogepmaa.Plain
