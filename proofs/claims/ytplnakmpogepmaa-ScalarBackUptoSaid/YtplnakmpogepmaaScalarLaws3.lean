import Derived.Test.YtplnakmpogepmaaScalarEnc
import Derived.Test.YtplnakmpogepmaaAx4
/-! ScalarBack: there and back. -/
namespace Go.Proofs.Ytplnakmpogepmaa.Plain
open Go.RowKit Go.Proofs.YtplnakmpogepmaaW.PrintWords Go.Proofs.YtplnakmpogepmaaW.PrintLast Go.Proofs.YtplnakmpogepmaaW.PrintMore Go.Proofs.Ytplnakmpogepmaa.A
set_option linter.unusedVariables false
set_option linter.unusedSimpArgs false

theorem lead_of1 {c : Int} (h : 0 ≤ c) (h1 : c < 128) : leadS c = some (0, 0, 0, c) := by unfold leadS; rw [if_pos h1]
theorem lead_of2 {b : Int} (h : 194 ≤ b) (h1 : b < 224) : leadS b = some (1, 128, 191, b % 32) := by
  unfold leadS; rw [if_neg (by omega), if_neg (by omega), if_pos h1]
theorem lead_of3 {b : Int} (h : 224 ≤ b) (h1 : b < 240) : ∃ lo hi, leadS b = some (2, lo, hi, b % 16) ∧ (b = 224 → lo = 160 ∧ hi = 191) ∧ (b = 237 → lo = 128 ∧ hi = 159) ∧ (b ≠ 224 → b ≠ 237 → lo = 128 ∧ hi = 191) := by
  unfold leadS
  rw [if_neg (by omega), if_neg (by omega), if_neg (by omega)]
  by_cases c4 : b = 224
  · rw [if_pos c4]; subst c4; exact ⟨_, _, rfl, by simp⟩
  rw [if_neg c4]
  by_cases c5 : b = 237
  · rw [if_pos c5]; subst c5; exact ⟨_, _, rfl, by simp⟩
  rw [if_neg c5, if_pos h1]
  exact ⟨_, _, rfl, fun h => absurd h c4, fun h => absurd h c5, fun _ _ => ⟨rfl, rfl⟩⟩
theorem lead_of4 {b : Int} (h : 240 ≤ b) (h1 : b ≤ 244) : ∃ lo hi, leadS b = some (3, lo, hi, b % 8) ∧ (b = 240 → lo = 144 ∧ hi = 191) ∧ (b = 244 → lo = 128 ∧ hi = 143) ∧ (b ≠ 240 → b ≠ 244 → lo = 128 ∧ hi = 191) := by
  unfold leadS
  rw [if_neg (by omega), if_neg (by omega), if_neg (by omega), if_neg (by omega), if_neg (by omega), if_neg (by omega)]
  by_cases c4 : b = 240
  · rw [if_pos c4]; subst c4; exact ⟨_, _, rfl, by simp⟩
  rw [if_neg c4]
  by_cases c5 : b < 244
  · rw [if_pos c5]; exact ⟨_, _, rfl, fun h => absurd h c4, fun h => by omega, fun _ _ => ⟨rfl, rfl⟩⟩
  rw [if_neg c5]
  obtain rfl : b = 244 := by omega
  exact ⟨_, _, rfl, by simp⟩
theorem feed_form {c : Int} (h : validS c = true) (v : List Int) (p : Nat) : feed 0 0 0 0 (formS c ++ v) p = emit c (feed 0 0 0 0 v (p + (formS c).length)) := by
  rw [valid_iff] at h
  unfold formS
  by_cases c1 : c < 128
  · rw [if_pos c1]
    simp only [List.cons_append, List.nil_append, feed, lead_of1 h.1 c1, List.length_cons, List.length_nil]
  rw [if_neg c1]
  by_cases c2 : c < 2048
  · rw [if_pos c2]
    simp only [List.cons_append, List.nil_append, List.length_cons, List.length_nil]
    rw [feed, lead_of2 (by omega) (by omega)]
    simp only
    rw [feed_succ _ _ _ _ _ _ _ (by omega)]
    simp only
    rw [show (192 + c / 64) % 32 * 64 + (128 + c % 64) % 64 = c by omega]
  rw [if_neg c2]
  by_cases c3 : c < 65536
  · rw [if_pos c3]
    simp only [List.cons_append, List.nil_append, List.length_cons, List.length_nil]
    obtain ⟨lo, hi, hL, ha, hb, hc⟩ := lead_of3 (b := 224 + c / 4096) (by omega) (by omega)
    rw [feed, hL]
    simp only
    rw [feed_succ _ _ _ _ _ _ _ (by
      by_cases e1 : 224 + c / 4096 = 224
      · have := ha e1; omega
      · by_cases e2 : 224 + c / 4096 = 237
        · have := hb e2; omega
        · have := hc e1 e2; omega)]
    simp only
    rw [feed_succ _ _ _ _ _ _ _ (by omega)]
    simp only
    rw [show ((224 + c / 4096) % 16 * 64 + (128 + c / 64 % 64) % 64) * 64 + (128 + c % 64) % 64 = c by omega]
  rw [if_neg c3]
  simp only [List.cons_append, List.nil_append, List.length_cons, List.length_nil]
  obtain ⟨lo, hi, hL, ha, hb, hc⟩ := lead_of4 (b := 240 + c / 262144) (by omega) (by omega)
  rw [feed, hL]
  simp only
  rw [feed_succ _ _ _ _ _ _ _ (by
      by_cases e1 : 240 + c / 262144 = 240
      · have := ha e1; omega
      · by_cases e2 : 240 + c / 262144 = 244
        · have := hb e2; omega
        · have := hc e1 e2; omega)]
  simp only
  rw [feed_succ _ _ _ _ _ _ _ (by omega)]
  simp only
  rw [feed_succ _ _ _ _ _ _ _ (by omega)]
  simp only
  rw [show (((240 + c / 262144) % 8 * 64 + (128 + c / 4096 % 64) % 64) * 64 + (128 + c / 64 % 64) % 64) * 64 + (128 + c % 64) % 64 = c by omega]
/-- What is written is read. -/
theorem feed_enc : ∀ (l : List Int) (i : Nat) (out : List Int) (p : Nat), enc l i = .inr out → feed 0 0 0 0 out p = .inr ((0, 0, 0, 0), l)
  | [], i, out, p, h => by simp only [enc, Sum.inr.injEq] at h; subst h; rfl
  | c :: cs, i, out, p, h => by
    simp only [enc] at h
    by_cases hv : validS c = true
    · rw [if_pos hv] at h
      cases hr : enc cs (i + 1) with
      | inl j => rw [hr] at h; cases h
      | inr o =>
        rw [hr] at h
        simp only [conc, Sum.inr.injEq] at h
        subst h
        rw [feed_form hv, feed_enc cs (i + 1) o _ hr]
        rfl
    · rw [if_neg hv] at h; cases h
/-- What is read to the end from a state begins with what the state wants. -/
theorem emit_to {lo hi c : Int} {out : List Int} (d : Int) (u : List Int) (q : Nat) (he : emit d (feed 0 0 0 0 u q) = .inr ((0, lo, hi, c), out)) : ∃ o, out = d :: o ∧ feed 0 0 0 0 u q = .inr ((0, lo, hi, c), o) := by
  cases hf : feed 0 0 0 0 u q with
  | inl r => rw [hf] at he; cases he
  | inr r =>
    rw [hf] at he
    simp only [emit, Sum.inr.injEq, Prod.mk.injEq] at he
    exact ⟨r.2, he.2.symm, by rw [← he.1]⟩
theorem feed_open {lo hi c : Int} {out : List Int} {m : Nat} {x y z : Int} {q : Nat} {bs : List Int} (h : feed (m + 1) x y z bs q = .inr ((0, lo, hi, c), out)) : ∃ b u, bs = b :: u ∧ ¬ (b < x ∨ y < b) ∧
    (match m with | 0 => emit (z * 64 + b % 64) (feed 0 0 0 0 u (q + 1)) | m' + 1 => feed (m' + 1) 128 191 (z * 64 + b % 64) u (q + 1)) = .inr ((0, lo, hi, c), out) := by
  cases bs with
  | nil =>
    simp only [feed, Sum.inr.injEq, Prod.mk.injEq] at h
    omega
  | cons b u =>
    by_cases hn : b < x ∨ y < b
    · rw [feed_bad _ _ _ _ _ _ _ hn] at h; cases h
    · rw [feed_succ _ _ _ _ _ _ _ hn] at h
      exact ⟨b, u, rfl, hn, h⟩
theorem lead_inv {b : Int} {m : Nat} {lo1 hi1 c1 : Int} (hL : leadS b = some (m, lo1, hi1, c1)) : (m = 0 ∧ b < 128 ∧ c1 = b) ∨ (m = 1 ∧ 194 ≤ b ∧ b < 224 ∧ lo1 = 128 ∧ hi1 = 191 ∧ c1 = b % 32) ∨
    (m = 2 ∧ 224 ≤ b ∧ b < 240 ∧ c1 = b % 16 ∧ ((b = 224 ∧ lo1 = 160 ∧ hi1 = 191) ∨ (b = 237 ∧ lo1 = 128 ∧ hi1 = 159) ∨ (b ≠ 224 ∧ b ≠ 237 ∧ lo1 = 128 ∧ hi1 = 191))) ∨
    (m = 3 ∧ 240 ≤ b ∧ b ≤ 244 ∧ c1 = b % 8 ∧ ((b = 240 ∧ lo1 = 144 ∧ hi1 = 191) ∨ (b = 244 ∧ lo1 = 128 ∧ hi1 = 143) ∨ (b ≠ 240 ∧ b ≠ 244 ∧ lo1 = 128 ∧ hi1 = 191))) := by
  unfold leadS at hL
  by_cases c1 : b < 128
  · rw [if_pos c1] at hL; simp only [Option.some.injEq, Prod.mk.injEq] at hL; obtain ⟨rfl, rfl, rfl, rfl⟩ := hL; exact .inl ⟨rfl, c1, rfl⟩
  rw [if_neg c1] at hL
  by_cases c2 : b < 194
  · rw [if_pos c2] at hL; cases hL
  rw [if_neg c2] at hL
  by_cases c3 : b < 224
  · rw [if_pos c3] at hL; simp only [Option.some.injEq, Prod.mk.injEq] at hL; obtain ⟨rfl, rfl, rfl, rfl⟩ := hL; exact .inr (.inl ⟨rfl, by omega, c3, rfl, rfl, rfl⟩)
  rw [if_neg c3] at hL
  by_cases c4 : b = 224
  · rw [if_pos c4] at hL; simp only [Option.some.injEq, Prod.mk.injEq] at hL; obtain ⟨rfl, rfl, rfl, rfl⟩ := hL; exact .inr (.inr (.inl ⟨rfl, by omega, by omega, by omega, .inl ⟨c4, rfl, rfl⟩⟩))
  rw [if_neg c4] at hL
  by_cases c5 : b = 237
  · rw [if_pos c5] at hL; simp only [Option.some.injEq, Prod.mk.injEq] at hL; obtain ⟨rfl, rfl, rfl, rfl⟩ := hL; exact .inr (.inr (.inl ⟨rfl, by omega, by omega, by omega, .inr (.inl ⟨c5, rfl, rfl⟩)⟩))
  rw [if_neg c5] at hL
  by_cases c6 : b < 240
  · rw [if_pos c6] at hL; simp only [Option.some.injEq, Prod.mk.injEq] at hL; obtain ⟨rfl, rfl, rfl, rfl⟩ := hL; exact .inr (.inr (.inl ⟨rfl, by omega, by omega, rfl, .inr (.inr ⟨c4, c5, rfl, rfl⟩)⟩))
  rw [if_neg c6] at hL
  by_cases c7 : b = 240
  · rw [if_pos c7] at hL; simp only [Option.some.injEq, Prod.mk.injEq] at hL; obtain ⟨rfl, rfl, rfl, rfl⟩ := hL; exact .inr (.inr (.inr ⟨rfl, by omega, by omega, by omega, .inl ⟨c7, rfl, rfl⟩⟩))
  rw [if_neg c7] at hL
  by_cases c8 : b < 244
  · rw [if_pos c8] at hL; simp only [Option.some.injEq, Prod.mk.injEq] at hL; obtain ⟨rfl, rfl, rfl, rfl⟩ := hL; exact .inr (.inr (.inr ⟨rfl, by omega, by omega, rfl, .inr (.inr ⟨c7, by omega, rfl, rfl⟩)⟩))
  rw [if_neg c8] at hL
  by_cases c9 : b = 244
  · rw [if_pos c9] at hL; simp only [Option.some.injEq, Prod.mk.injEq] at hL; obtain ⟨rfl, rfl, rfl, rfl⟩ := hL; exact .inr (.inr (.inr ⟨rfl, by omega, by omega, by omega, .inr (.inl ⟨c9, rfl, rfl⟩)⟩))
  rw [if_neg c9] at hL; cases hL
theorem form1 {b : Int} (h0 : 0 ≤ b) (h : b < 128) : validS b = true ∧ formS b = [b] := ⟨valid_iff.2 (by omega), by unfold formS; rw [if_pos h]⟩
theorem form2 {b b1 : Int} (h : 194 ≤ b ∧ b < 224) (h1 : ¬ (b1 < 128 ∨ 191 < b1)) : validS (b % 32 * 64 + b1 % 64) = true ∧ formS (b % 32 * 64 + b1 % 64) = [b, b1] := by
  refine ⟨valid_iff.2 (by omega), ?_⟩
  unfold formS
  rw [if_neg (by omega), if_pos (by omega), show 192 + (b % 32 * 64 + b1 % 64) / 64 = b by omega, show 128 + (b % 32 * 64 + b1 % 64) % 64 = b1 by omega]
theorem form3 {b b1 b2 lo1 hi1 : Int} (h : 224 ≤ b ∧ b < 240) (hb : (b = 224 ∧ lo1 = 160 ∧ hi1 = 191) ∨ (b = 237 ∧ lo1 = 128 ∧ hi1 = 159) ∨ (b ≠ 224 ∧ b ≠ 237 ∧ lo1 = 128 ∧ hi1 = 191)) (h1 : ¬ (b1 < lo1 ∨ hi1 < b1)) (h2 : ¬ (b2 < 128 ∨ 191 < b2)) :
    validS ((b % 16 * 64 + b1 % 64) * 64 + b2 % 64) = true ∧ formS ((b % 16 * 64 + b1 % 64) * 64 + b2 % 64) = [b, b1, b2] := by
  obtain ⟨r1, hr1⟩ : ∃ r, b1 = 128 + r := ⟨b1 - 128, by omega⟩
  obtain ⟨r2, hr2⟩ : ∃ r, b2 = 128 + r := ⟨b2 - 128, by omega⟩
  obtain ⟨r, hr⟩ : ∃ r, b = 224 + r := ⟨b - 224, by omega⟩
  have e : (b % 16 * 64 + b1 % 64) * 64 + b2 % 64 = r * 4096 + r1 * 64 + r2 := by omega
  rw [e]
  refine ⟨valid_iff.2 (by omega), ?_⟩
  unfold formS
  rw [if_neg (by omega), if_neg (by omega), if_pos (by omega), show 224 + (r * 4096 + r1 * 64 + r2) / 4096 = b by omega, show 128 + (r * 4096 + r1 * 64 + r2) / 64 % 64 = b1 by omega, show 128 + (r * 4096 + r1 * 64 + r2) % 64 = b2 by omega]
theorem form4 {b b1 b2 b3 lo1 hi1 : Int} (h : 240 ≤ b ∧ b ≤ 244) (hb : (b = 240 ∧ lo1 = 144 ∧ hi1 = 191) ∨ (b = 244 ∧ lo1 = 128 ∧ hi1 = 143) ∨ (b ≠ 240 ∧ b ≠ 244 ∧ lo1 = 128 ∧ hi1 = 191)) (h1 : ¬ (b1 < lo1 ∨ hi1 < b1)) (h2 : ¬ (b2 < 128 ∨ 191 < b2)) (h3 : ¬ (b3 < 128 ∨ 191 < b3)) :
    validS (((b % 8 * 64 + b1 % 64) * 64 + b2 % 64) * 64 + b3 % 64) = true ∧ formS (((b % 8 * 64 + b1 % 64) * 64 + b2 % 64) * 64 + b3 % 64) = [b, b1, b2, b3] := by
  obtain ⟨r1, hr1⟩ : ∃ r, b1 = 128 + r := ⟨b1 - 128, by omega⟩
  obtain ⟨r2, hr2⟩ : ∃ r, b2 = 128 + r := ⟨b2 - 128, by omega⟩
  obtain ⟨r3, hr3⟩ : ∃ r, b3 = 128 + r := ⟨b3 - 128, by omega⟩
  obtain ⟨r, hr⟩ : ∃ r, b = 240 + r := ⟨b - 240, by omega⟩
  have e : ((b % 8 * 64 + b1 % 64) * 64 + b2 % 64) * 64 + b3 % 64 = r * 262144 + r1 * 4096 + r2 * 64 + r3 := by omega
  rw [e]
  refine ⟨valid_iff.2 (by omega), ?_⟩
  unfold formS
  rw [if_neg (by omega), if_neg (by omega), if_neg (by omega), show 240 + (r * 262144 + r1 * 4096 + r2 * 64 + r3) / 262144 = b by omega, show 128 + (r * 262144 + r1 * 4096 + r2 * 64 + r3) / 4096 % 64 = b1 by omega, show 128 + (r * 262144 + r1 * 4096 + r2 * 64 + r3) / 64 % 64 = b2 by omega, show 128 + (r * 262144 + r1 * 4096 + r2 * 64 + r3) % 64 = b3 by omega]
/-- One number off the front of what is read to the end. -/
theorem read_one (b : Int) (bs : List Int) (p : Nat) (hb : 0 ≤ b) (lo hi c : Int) (out : List Int) (h : feed 0 0 0 0 (b :: bs) p = .inr ((0, lo, hi, c), out)) :
    ∃ d o u, out = d :: o ∧ validS d = true ∧ b :: bs = formS d ++ u ∧ ∃ q lo' hi' c', feed 0 0 0 0 u q = .inr ((0, lo', hi', c'), o) := by
  rw [feed] at h
  cases hL : leadS b with
  | none => rw [hL] at h; cases h
  | some q =>
    obtain ⟨m, lo1, hi1, c1⟩ := q
    rw [hL] at h
    rcases lead_inv hL with ⟨rfl, hb1, rfl⟩ | ⟨rfl, h1, h2, rfl, rfl, rfl⟩ | ⟨rfl, h1, h2, rfl, hbd⟩ | ⟨rfl, h1, h2, rfl, hbd⟩
    · obtain ⟨o, ho, hf⟩ := emit_to _ _ _ h
      obtain ⟨hv, hfm⟩ := form1 hb hb1
      exact ⟨c1, o, bs, ho, hv, by rw [hfm]; rfl, _, _, _, _, hf⟩
    · obtain ⟨b1, u, rfl, hn1, h⟩ := feed_open h
      obtain ⟨o, ho, hf⟩ := emit_to _ _ _ h
      obtain ⟨hv, hfm⟩ := form2 ⟨h1, h2⟩ hn1
      exact ⟨_, o, u, ho, hv, by rw [hfm]; rfl, _, _, _, _, hf⟩
    · obtain ⟨b1, u, rfl, hn1, h⟩ := feed_open h
      obtain ⟨b2, u, rfl, hn2, h⟩ := feed_open h
      obtain ⟨o, ho, hf⟩ := emit_to _ _ _ h
      obtain ⟨hv, hfm⟩ := form3 ⟨h1, h2⟩ hbd hn1 hn2
      exact ⟨_, o, u, ho, hv, by rw [hfm]; rfl, _, _, _, _, hf⟩
    · obtain ⟨b1, u, rfl, hn1, h⟩ := feed_open h
      obtain ⟨b2, u, rfl, hn2, h⟩ := feed_open h
      obtain ⟨b3, u, rfl, hn3, h⟩ := feed_open h
      obtain ⟨o, ho, hf⟩ := emit_to _ _ _ h
      obtain ⟨hv, hfm⟩ := form4 ⟨h1, h2⟩ hbd hn1 hn2 hn3
      exact ⟨_, o, u, ho, hv, by rw [hfm]; rfl, _, _, _, _, hf⟩
/-- What is read is written just so. -/
theorem enc_feed : ∀ (n : Nat) (bs : List Int), bs.length ≤ n → (∀ b ∈ bs, 0 ≤ b) → ∀ (p i : Nat) (lo hi c : Int) (out : List Int), feed 0 0 0 0 bs p = .inr ((0, lo, hi, c), out) → enc out i = .inr bs
  | n, [], _, _, p, i, lo, hi, c, out, h => by
    simp only [feed, Sum.inr.injEq, Prod.mk.injEq] at h
    rw [← h.2]; rfl
  | 0, b :: bs, hl, _, _, _, _, _, _, _, _ => by simp at hl
  | n + 1, b :: bs, hl, hb, p, i, lo, hi, c, out, h => by
    obtain ⟨d, o, u, rfl, hv, e, q, lo', hi', c', hf⟩ := read_one b bs p (hb b (by simp)) lo hi c out h
    have fl := form_len d
    have hlen := congrArg List.length e
    simp only [List.length_cons, List.length_append] at hlen
    have ih := enc_feed n u (by simp at hl; omega) (fun x hx => hb x (by rw [e]; simp [hx])) q (i + 1) lo' hi' c' o hf
    rw [enc, if_pos hv, ih, e]
    rfl
theorem law_back (l : List Int) (s : ByteArray) (hs : l.length + s.size ≤ 1048576) : ∃ k, endonymlaw3_ScalarBack.f k l s = some true := by
  refine ⟨16 * (l.length + s.size) + 40, ?_⟩
  have hsz : s.size = (bytesOf s).length := sz s
  have hbp : ∀ b ∈ bytesOf s, 0 ≤ b := fun b hb => (byte_mem s b hb).1
  have second : ∀ k, 8 * (l.length + s.size) + 30 ≤ k → endonymlaw3_ScalarBack.j0 k s = some true := by
    intro k hk
    obtain ⟨k, rfl⟩ : ∃ m, k = m + 1 := ⟨k - 1, by omega⟩
    rw [endonymlaw3_ScalarBack.j0, Decode_ok s (by omega) _ (by omega), told_ok _ (by omega)]
    simp only [Option.bind_some]
    rcases dec_cases (bytesOf s) with ⟨out, lo, hi, c, hf, hd⟩ | ⟨q, hf, hq, hd⟩ | ⟨m, lo, hi, c, out, hf, hd⟩
    · have he := enc_feed _ _ (Nat.le_refl _) hbp 0 0 lo hi c out hf
      have hol := (dec_len (bytesOf s)).1
      rw [hd] at hol
      simp only at hol
      rw [hd, if_pos rfl]
      simp only
      rw [Encode_ok out (by omega) _ (by omega), he, show finE [] (Sum.inr (bytesOf s)) = (strOfNums (bytesOf s), 0, 0) from rfl]
      rw [Option.bind_some, if_pos rfl, if_pos (by rw [bytesOf_toList, bytesOf_strOfNums _ (byte_mem s)])]
    · rw [hd]; simp only; rw [if_neg (by decide)]
    · rw [hd]; simp only; rw [if_neg (by decide)]
  unfold endonymlaw3_ScalarBack.f
  rw [Encode_ok l (by omega) _ (by omega)]
  simp only [Option.bind_some]
  cases he : enc l 0 with
  | inl i => rw [show finE [] (Sum.inl i) = ((⟨#[]⟩ : ByteArray), (i : Int), 31) from rfl]; simp only; rw [if_neg (by decide)]; exact second _ (by omega)
  | inr out =>
    obtain ⟨h1, h2, h3⟩ := enc_bytes l 0 out he
    have hso : (strOfNums out).size = out.length := strOfNums_size out
    rw [show finE [] (Sum.inr out) = (strOfNums out, 0, 0) from rfl, if_pos rfl]
    simp only
    rw [Decode_ok (strOfNums out) (by omega) _ (by omega), bytesOf_strOfNums out h1]
    have hd : dec out = (l, 0, 0) := by unfold dec; rw [feed_enc l 0 out 0 he]; rfl
    rw [hd]
    simp only [Option.bind_some, if_true]
    rw [Same_eq l (by omega) _ (by omega)]
    simp only [Option.bind_some, if_true]
    exact second _ (by omega)
end Go.Proofs.Ytplnakmpogepmaa.Plain
