import Derived.Test.YtplnakmpogepmaaScalarLaws1
import Derived.Test.YtplnakmpogepmaaAx5
import Derived.Test.YtplnakmpogepmaaAx6
/-! ScalarBad, ScalarFirst. -/
namespace Go.Proofs.Ytplnakmpogepmaa.Plain
open Go.RowKit Go.Proofs.YtplnakmpogepmaaW.PrintWords Go.Proofs.YtplnakmpogepmaaW.PrintLast Go.Proofs.YtplnakmpogepmaaW.PrintMore Go.Proofs.Ytplnakmpogepmaa.A
set_option linter.unusedVariables false
set_option linter.unusedSimpArgs false

def emits (l : List Int) : FR → FR
  | .inl p => .inl p
  | .inr (st, out) => .inr (st, l ++ out)
theorem emit_emits (c : Int) (l : List Int) (r : FR) : emit c (emits l r) = emits (c :: l) r := by
  rcases r with p | ⟨st, out⟩ <;> rfl
theorem emits_nil (r : FR) : emits [] r = r := by rcases r with p | ⟨st, out⟩ <;> rfl
/-- On behind u. -/
def after (v : List Int) (p : Nat) : FR → FR
  | .inl q => .inl q
  | .inr ((m, lo, hi, c), out) => emits out (feed m lo hi c v p)
theorem after_emit (c : Int) (v : List Int) (p : Nat) (r : FR) : after v p (emit c r) = emit c (after v p r) := by
  rcases r with q | ⟨⟨m, lo, hi, d⟩, out⟩
  · rfl
  · show emits (c :: out) _ = emit c (emits out _)
    rw [emit_emits]
theorem feed_append (v : List Int) : ∀ (u : List Int) (m : Nat) (lo hi c : Int) (p : Nat), feed m lo hi c (u ++ v) p = after v (p + u.length) (feed m lo hi c u p)
  | [], m, lo, hi, c, p => by simp [feed, after, emits_nil]
  | b :: u, 0, lo, hi, c, p => by
    simp only [List.cons_append, feed, List.length_cons]
    cases hL : leadS b with
    | none => rfl
    | some q =>
      obtain ⟨m, lo', hi', c'⟩ := q
      cases m with
      | zero =>
        simp only
        rw [after_emit, feed_append v u 0 0 0 0 (p + 1), show p + (u.length + 1) = p + 1 + u.length by omega]
      | succ m =>
        simp only
        rw [feed_append v u (m + 1) lo' hi' c' (p + 1), show p + (u.length + 1) = p + 1 + u.length by omega]
  | b :: u, m + 1, lo, hi, c, p => by
    by_cases hn : b < lo ∨ hi < b
    · rw [List.cons_append, feed_bad m lo hi c b _ p hn, feed_bad m lo hi c b _ p hn]; rfl
    · rw [List.cons_append, feed_succ m lo hi c b _ p hn, feed_succ m lo hi c b _ p hn, List.length_cons]
      cases m with
      | zero =>
        simp only
        rw [after_emit, feed_append v u 0 0 0 0 (p + 1), show p + (u.length + 1) = p + 1 + u.length by omega]
      | succ m =>
        simp only
        rw [feed_append v u (m + 1) 128 191 (c * 64 + b % 64) (p + 1), show p + (u.length + 1) = p + 1 + u.length by omega]
theorem emit_inr {c : Int} {r : FR} {st : Nat × Int × Int × Int} {out : List Int} (h : emit c r = .inr (st, out)) : ∃ o, r = .inr (st, o) := by
  rcases r with q | ⟨st', o⟩
  · cases h
  · simp only [emit, Sum.inr.injEq, Prod.mk.injEq] at h
    exact ⟨o, by rw [h.1]⟩
theorem emit_inl {c : Int} {r : FR} {q : Nat} (h : emit c r = .inl q) : r = .inl q := by
  rcases r with q' | ⟨st', o⟩
  · exact h
  · cases h
theorem feed_ok : ∀ (u : List Int) (m : Nat) (lo hi c : Int) (p : Nat) (m' : Nat) (lo' hi' c' : Int) (out : List Int), (∀ b ∈ u, 0 ≤ b) → Ok m lo hi c → feed m lo hi c u p = .inr ((m', lo', hi', c'), out) → Ok m' lo' hi' c'
  | [], m, lo, hi, c, p, m', lo', hi', c', out, _, hok, h => by
    simp only [feed, Sum.inr.injEq, Prod.mk.injEq] at h
    obtain ⟨⟨rfl, rfl, rfl, rfl⟩, _⟩ := h
    exact hok
  | b :: u, 0, lo, hi, c, p, m', lo', hi', c', out, hb, hok, h => by
    simp only [feed] at h
    have hu : ∀ b ∈ u, 0 ≤ b := fun x hx => hb x (by simp [hx])
    cases hL : leadS b with
    | none => rw [hL] at h; cases h
    | some q =>
      obtain ⟨m2, lo2, hi2, c2⟩ := q
      rw [hL] at h
      have hok2 := lead_ok (hb b (by simp)) hL
      cases m2 with
      | zero =>
        obtain ⟨o, ho⟩ := emit_inr h
        exact feed_ok u 0 0 0 0 (p + 1) m' lo' hi' c' o hu (.inl rfl) ho
      | succ m2 => exact feed_ok u (m2 + 1) lo2 hi2 c2 (p + 1) m' lo' hi' c' out hu hok2 h
  | b :: u, m + 1, lo, hi, c, p, m', lo', hi', c', out, hb, hok, h => by
    have hu : ∀ b ∈ u, 0 ≤ b := fun x hx => hb x (by simp [hx])
    by_cases hn : b < lo ∨ hi < b
    · rw [feed_bad m lo hi c b _ p hn] at h; cases h
    · rw [feed_succ m lo hi c b _ p hn] at h
      cases m with
      | zero =>
        obtain ⟨o, ho⟩ := emit_inr h
        exact feed_ok u 0 0 0 0 (p + 1) m' lo' hi' c' o hu (.inl rfl) ho
      | succ m => exact feed_ok u (m + 1) 128 191 (c * 64 + b % 64) (p + 1) m' lo' hi' c' out hu (next_ok (hb b (by simp)) hok) h
/-- Where it is refused at a byte: what stands ahead is taken, and that byte is refused whatever stands behind. -/
theorem feed_refused (bs : List Int) (q : Nat) (h : feed 0 0 0 0 bs 0 = .inl q) : q < bs.length ∧ (∃ st out, feed 0 0 0 0 (bs.take q) 0 = .inr (st, out)) ∧ ∀ w, feed 0 0 0 0 (bs.take (q + 1) ++ w) 0 = .inl q := by
  have hq := feed_len bs 0 0 0 0 0
  rw [h] at hq
  simp only at hq
  have h1 : bs = bs.take q ++ bs.drop q := (List.take_append_drop q bs).symm
  have h2 : (bs.take q).length = q := by rw [List.length_take]; omega
  have h4 : bs = bs.take (q + 1) ++ bs.drop (q + 1) := (List.take_append_drop (q + 1) bs).symm
  have h5 : (bs.take (q + 1)).length = q + 1 := by rw [List.length_take]; omega
  have hA : ∃ st out, feed 0 0 0 0 (bs.take q) 0 = .inr (st, out) := by
    cases hf : feed 0 0 0 0 (bs.take q) 0 with
    | inr r => exact ⟨r.1, r.2, rfl⟩
    | inl r =>
      have hr := feed_len (bs.take q) 0 0 0 0 0
      rw [hf] at hr
      rw [h1, feed_append, hf] at h
      simp only [after, Sum.inl.injEq] at h
      simp only at hr
      omega
  refine ⟨by omega, hA, fun w => ?_⟩
  rw [feed_append]
  cases hf : feed 0 0 0 0 (bs.take (q + 1)) 0 with
  | inl r =>
    rw [h4, feed_append, hf] at h
    exact h
  | inr r =>
    exfalso
    obtain ⟨⟨m, lo, hi, c⟩, out⟩ := r
    rw [h4, feed_append, hf] at h
    simp only [after] at h
    have hr := feed_len (bs.drop (q + 1)) m lo hi c (0 + (bs.take (q + 1)).length)
    cases hg : feed m lo hi c (bs.drop (q + 1)) (0 + (bs.take (q + 1)).length) with
    | inr r => rw [hg] at h; cases h
    | inl r =>
      rw [hg] at h hr
      simp only [emits, Sum.inl.injEq] at h
      simp only at hr
      omega
/-- What Decode tells where it refuses: at a byte, or at the end. -/
theorem dec_cases (bs : List Int) : (∃ out lo hi c, feed 0 0 0 0 bs 0 = .inr ((0, lo, hi, c), out) ∧ dec bs = (out, 0, 0)) ∨ (∃ q, feed 0 0 0 0 bs 0 = .inl q ∧ q < bs.length ∧ dec bs = ([], (q : Int), 30)) ∨
    ∃ m lo hi c out, feed 0 0 0 0 bs 0 = .inr ((m + 1, lo, hi, c), out) ∧ dec bs = ([], (bs.length : Int), 30) := by
  unfold dec
  cases hf : feed 0 0 0 0 bs 0 with
  | inl q =>
    have hq := feed_len bs 0 0 0 0 0
    rw [hf] at hq
    exact .inr (.inl ⟨q, rfl, by simpa using hq, rfl⟩)
  | inr r =>
    obtain ⟨⟨m, lo, hi, c⟩, out⟩ := r
    cases m with
    | zero => exact .inl ⟨out, lo, hi, c, rfl, by simp [fin]⟩
    | succ m => exact .inr (.inr ⟨m, lo, hi, c, out, rfl, rfl⟩)
theorem bytes_cut (s t : ByteArray) (n : Nat) : bytesOf (s.extract 0 n ++ t) = (bytesOf s).take n ++ bytesOf t := by
  rw [bytesOf_append, bytesOf_extract, List.drop_zero]
theorem law_bad (s t : ByteArray) (hs : s.size + t.size ≤ 1048576) : ∃ k, endonymlaw3_ScalarBad.f k s t = some true := by
  refine ⟨3 * (s.size + t.size) + 40, ?_⟩
  have hsz : s.size = (bytesOf s).length := sz s
  unfold endonymlaw3_ScalarBad.f
  rw [Decode_ok s (by omega) _ (by omega)]
  simp only [Option.bind_some]
  obtain ⟨k, hk⟩ : ∃ k, 3 * (s.size + t.size) + 40 = k + 1 := ⟨3 * (s.size + t.size) + 39, by omega⟩
  rcases dec_cases (bytesOf s) with ⟨out, lo, hi, c, _, hd⟩ | ⟨q, hf, hq, hd⟩ | ⟨m, lo, hi, c, out, _, hd⟩
  · rw [hd, if_pos rfl, hk, endonymlaw3_ScalarBad.j0, if_pos rfl, told_ok _ (by omega)]; rfl
  · rw [hd]
    simp only
    rw [if_neg (by decide), hk, endonymlaw3_ScalarBad.j0, if_neg (by simp; omega), if_neg (by omega)]
    have e : wrap64 ((q : Int) + 1) = ((q + 1 : Nat) : Int) := by rw [w64 (by omega) (by omega)]; rfl
    rw [e, if_pos (by omega), if_pos (by omega), Int.toNat_natCast, if_pos (by rw [ByteArray.size_extract]; omega)]
    have hsz2 : (s.extract 0 (q + 1) ++ t).size ≤ s.size + t.size := by rw [ByteArray.size_append, ByteArray.size_extract]; omega
    rw [Decode_ok _ (by omega) _ (by omega), told_ok _ (by omega)]
    simp only [Option.bind_some, if_true]
    rw [bytes_cut]
    have hd2 : dec ((bytesOf s).take (q + 1) ++ bytesOf t) = ([], (q : Int), 30) := by
      unfold dec
      rw [(feed_refused _ _ hf).2.2]
      rfl
    rw [hd2]
    simp
  · rw [hd]
    simp only
    rw [if_neg (by decide), hk, endonymlaw3_ScalarBad.j0, if_pos (by simp; omega), told_ok _ (by omega)]; rfl
/-- By one of these a state that is come to is gone on with to a text. -/
theorem gone_on (m : Nat) (lo hi c : Int) (p : Nat) (h : Ok m lo hi c) : ∃ (e : List Int), (e = [] ∨ e = [128] ∨ e = [128, 128] ∨ e = [160, 128] ∨ e = [128, 128, 128] ∨ e = [144, 128, 128]) ∧ ∃ lo' hi' c' out, feed m lo hi c e p = .inr ((0, lo', hi', c'), out) := by
  rcases h with rfl | ⟨rfl, rfl, rfl, _⟩ | ⟨rfl, hlo, hhi, hx, _⟩ | ⟨rfl, h, _⟩
  · exact ⟨[], .inl rfl, _, _, _, _, rfl⟩
  · exact ⟨[128], .inr (.inl rfl), _, _, _, _, rfl⟩
  · rcases hlo with rfl | rfl
    · rcases hhi with rfl | rfl
      · exact ⟨[128, 128], .inr (.inr (.inl rfl)), _, _, _, _, rfl⟩
      · exact ⟨[128, 128], .inr (.inr (.inl rfl)), _, _, _, _, rfl⟩
    · obtain rfl : hi = 191 := by omega
      exact ⟨[160, 128], .inr (.inr (.inr (.inl rfl))), _, _, _, _, rfl⟩
  · rcases h with ⟨rfl, rfl⟩ | ⟨rfl, rfl⟩ | ⟨rfl, rfl⟩
    · exact ⟨[128, 128, 128], .inr (.inr (.inr (.inr (.inl rfl)))), _, _, _, _, rfl⟩
    · exact ⟨[144, 128, 128], .inr (.inr (.inr (.inr (.inr rfl)))), _, _, _, _, rfl⟩
    · exact ⟨[128, 128, 128], .inr (.inr (.inr (.inr (.inl rfl)))), _, _, _, _, rfl⟩
def endsB : List ByteArray := [(⟨#[]⟩ : ByteArray), (⟨#[128]⟩ : ByteArray), (⟨#[160]⟩ : ByteArray), (⟨#[144]⟩ : ByteArray), (⟨#[128, 128]⟩ : ByteArray), (⟨#[160, 128]⟩ : ByteArray), (⟨#[144, 128]⟩ : ByteArray), (⟨#[128, 128, 128]⟩ : ByteArray), (⟨#[144, 128, 128]⟩ : ByteArray)]
theorem rdOf_nat {α : Type} (d : α) (l : List α) (i : Nat) (h : i < l.length) : rdOf d l (i : Int) = l[i] := by
  simp [rdOf, List.getD_eq_getElem?_getD, List.getElem?_eq_getElem h]
theorem ends_small : ∀ e ∈ endsB, e.size ≤ 3 := by decide
theorem ends_has (e : List Int) (h : e = [] ∨ e = [128] ∨ e = [128, 128] ∨ e = [160, 128] ∨ e = [128, 128, 128] ∨ e = [144, 128, 128]) : ∃ j, ∃ hj : j < endsB.length, bytesOf endsB[j] = e := by
  rcases h with rfl | rfl | rfl | rfl | rfl | rfl
  · exact ⟨0, by decide, by decide⟩
  · exact ⟨1, by decide, by decide⟩
  · exact ⟨4, by decide, by decide⟩
  · exact ⟨5, by decide, by decide⟩
  · exact ⟨7, by decide, by decide⟩
  · exact ⟨8, by decide, by decide⟩
theorem first_loop (s : ByteArray) (hs : s.size ≤ 1048576) (q : Nat) (hq : q ≤ s.size) (j : Nat) (hj : j < endsB.length) (hgood : (dec ((bytesOf s).take q ++ bytesOf endsB[j])).2.2 = 0) :
    ∀ (n i k : Nat), i + n = j → 2 * s.size + 21 + n ≤ k → endonymlaw3_ScalarFirst.l0 k s (q : Int) endsB (i : Int) = some true := by
  have hlen : endsB.length = 9 := rfl
  have step : ∀ (i k : Nat), i < 9 → 2 * s.size + 20 ≤ k → endonymlaw3_ScalarFirst.l0 (k + 1) s (q : Int) endsB (i : Int) =
      if (dec ((bytesOf s).take q ++ bytesOf (rdOf ByteArray.empty endsB (i : Int)))).2.2 = 0 then some true else endonymlaw3_ScalarFirst.l0 k s (q : Int) endsB ((i + 1 : Nat) : Int) := by
    intro i k hi hk
    have e : wrap64 ((i : Int) + 1) = ((i + 1 : Nat) : Int) := by rw [w64 (by omega) (by omega)]; rfl
    have hi2 : i < endsB.length := by rw [hlen]; exact hi
    have h3 : (rdOf ByteArray.empty endsB (i : Int)).size ≤ 3 := by rw [rdOf_nat _ _ _ hi2]; exact ends_small _ (List.getElem_mem _)
    have h4 : (s.extract 0 q ++ rdOf ByteArray.empty endsB (i : Int)).size ≤ s.size + 3 := by rw [ByteArray.size_append, ByteArray.size_extract]; omega
    rw [endonymlaw3_ScalarFirst.l0, if_pos (show (i : Int) < (endsB.length : Int) by omega), if_pos (by omega), if_pos (by omega), if_pos (by omega), Int.toNat_natCast, if_pos (by rw [ByteArray.size_extract]; omega), Decode_ok _ (by omega) _ (by omega), bytes_cut, told_ok _ (by omega), e]
    rfl
  intro n
  induction n with
  | zero =>
    intro i k hi hk
    obtain rfl : i = j := by omega
    obtain ⟨k, rfl⟩ : ∃ m, k = m + 1 := ⟨k - 1, by omega⟩
    rw [step i k (by omega) (by omega), rdOf_nat _ _ _ hj, if_pos hgood]
  | succ n ih =>
    intro i k hi hk
    obtain ⟨k, rfl⟩ : ∃ m, k = m + 1 := ⟨k - 1, by omega⟩
    rw [step i k (by omega) (by omega)]
    split
    · rfl
    · exact ih (i + 1) k (by omega) (by omega)
theorem law_first (s : ByteArray) (hs : s.size ≤ 1048576) : ∃ k, endonymlaw3_ScalarFirst.f k s = some true := by
  refine ⟨2 * s.size + 60, ?_⟩
  have hsz : s.size = (bytesOf s).length := sz s
  have hbp : ∀ b ∈ bytesOf s, 0 ≤ b := fun b hb => (byte_mem s b hb).1
  unfold endonymlaw3_ScalarFirst.f
  rw [Decode_ok s (by omega) _ (by omega)]
  simp only [Option.bind_some]
  obtain ⟨k, hk⟩ : ∃ k, 2 * s.size + 60 = k + 2 := ⟨2 * s.size + 58, by omega⟩
  have hmain : ∀ q : Nat, q ≤ s.size → (∃ st out, feed 0 0 0 0 ((bytesOf s).take q) 0 = .inr (st, out)) → endonymlaw3_ScalarFirst.j0 (k + 2) s (q : Int) false = some true := by
    intro q hq ⟨⟨m, lo, hi, c⟩, out, hf⟩
    have hok := feed_ok _ 0 0 0 0 0 m lo hi c out (fun b hb => hbp b (List.mem_of_mem_take hb)) (.inl rfl) hf
    obtain ⟨e, he, lo', hi', c', out', hfe⟩ := gone_on m lo hi c (0 + ((bytesOf s).take q).length) hok
    obtain ⟨j, hj, hje⟩ := ends_has e he
    have hgood : (dec ((bytesOf s).take q ++ bytesOf endsB[j])).2.2 = 0 := by
      rw [hje]; unfold dec; rw [feed_append, hf]; simp only [after]; rw [hfe]; rfl
    have hb0 : bytesOf (s.extract 0 q) = (bytesOf s).take q := by rw [bytesOf_extract, List.drop_zero]
    have hl0 := first_loop s hs q hq j hj hgood j 0 k (by omega) (by have : endsB.length = 9 := rfl; omega)
    have hj1 : endonymlaw3_ScalarFirst.j1 (k + 1) s (q : Int) false = some true := by
      rw [endonymlaw3_ScalarFirst.j1, if_neg (by decide)]
      exact hl0
    rw [endonymlaw3_ScalarFirst.j0, if_neg (by decide), if_pos (by omega), if_pos (by omega), Int.toNat_natCast, Decode_ok _ (by rw [ByteArray.size_extract]; omega) _ (by rw [ByteArray.size_extract]; omega), hb0]
    simp only [Option.bind_some]
    by_cases h0 : (dec ((bytesOf s).take q)).2.2 = 0
    · rw [if_pos h0]; exact hj1
    · rw [if_neg h0]
      have : (dec ((bytesOf s).take q)).2.1 = (q : Int) := by
        rcases dec_cases ((bytesOf s).take q) with ⟨_, _, _, _, _, hd⟩ | ⟨r, hr, _⟩ | ⟨_, _, _, _, _, _, hd⟩
        · rw [hd] at h0; exact absurd rfl h0
        · rw [hf] at hr; cases hr
        · rw [hd, List.length_take]; simp; omega
      rw [this, bne_self_eq_false]
      exact hj1
  rcases dec_cases (bytesOf s) with ⟨out, lo, hi, c, _, hd⟩ | ⟨q, hf, hq, hd⟩ | ⟨m, lo, hi, c, out, hf, hd⟩
  · rw [hd, if_pos rfl, told_ok _ (by omega)]; rfl
  · rw [hd]
    simp only
    rw [if_neg (by decide), if_neg (by omega), hk]
    have : decide ((q : Int) > (s.size : Int)) = false := by simp; omega
    rw [this]
    exact hmain q (by omega) (feed_refused _ _ hf).2.1
  · rw [hd]
    simp only
    rw [if_neg (by decide), if_neg (by omega), hk]
    have : decide (((bytesOf s).length : Int) > (s.size : Int)) = false := by simp; omega
    rw [this]
    exact hmain (bytesOf s).length (by omega) ⟨_, _, by rw [List.take_length]; exact hf⟩
end Go.Proofs.Ytplnakmpogepmaa.Plain
