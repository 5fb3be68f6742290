import Derived.Test.YtfmjdoofopamkaaGreatDoorRefQ
import Derived.Test.YtfmjdoofopamkaaGreatDoorWx33
import Derived.Test.YtfmjdoofopamkaaGreatDoorWx34
import Derived.Test.YtfmjdoofopamkaaGreatDoorWx19
namespace Go.Proofs.YtfmjdoofopamkaaGreatDoor.Plain
open Go.RowKit Go.Proofs.YtfmjdoofopamkaaGreatDoorW.PrintWords Go.Proofs.YtfmjdoofopamkaaGreatDoorW.PrintLast Go.Proofs.YtfmjdoofopamkaaGreatDoorW.PrintMore Go.Proofs.YtfmjdoofopamkaaGreatDoor.W
set_option linter.unusedVariables false
set_option linter.unusedSimpArgs false
set_option exponentiation.threshold 3000
theorem top_place {u p q : Nat} (h : Frac u p q) (hL0 : -1100 ≤ ((bl p : Nat) : Int) - (bl q : Nat)) (hL1 : ((bl p : Nat) : Int) - (bl q : Nat) < 1100) (l : Nat) (hl : 1000 ≤ l) :
  ∃ P : Int, un P l ≤ fv u * 10 ^ l ∧ fv u * 10 ^ l < un (P + 1) l ∧ -600 ≤ P ∧ P ≤ 600 ∧ ∀ {z : Int × Int}, Ev (fun k => r2_Shortest.l2 k (u : Int) (rl p) (rl q) P 1) z → Ev (fun k => r2_Shortest.j0 k (u : Int) (rl p) (rl q)) z := by
 obtain ⟨n1, n2⟩ := top_near h hL0 hL1 l hl
 have h3 := h.bp
 have h4 := h.bq
 have t1 := rlength_ok p (by have := rl_bl p (by omega); omega)
 have t2 := rlength_ok q (by have := rl_bl q (by omega); omega)
 obtain ⟨L, hL⟩ : ∃ L : Int, ((bl p : Nat) : Int) - (bl q : Nat) = L := ⟨_, rfl⟩
 rw [hL] at n1 n2 hL0 hL1
 obtain ⟨t, ht⟩ : ∃ t : Int, Int.tdiv (L * 30103) 100000 = t := ⟨_, rfl⟩
 rw [ht] at n1 n2
 have htb : -400 ≤ t ∧ t ≤ 400 := by
  rw [← ht]
  rcases Int.le_total 0 L with hp | hp
  ·rw [Int.tdiv_eq_ediv_of_nonneg (by omega)]; omega
  ·have : Int.tdiv (L * 30103) 100000 = -(Int.tdiv (-L * 30103) 100000) := by rw [← Int.neg_tdiv]; congr 1; omega
   rw [this, Int.tdiv_eq_ediv_of_nonneg (by omega)]; omega
 obtain ⟨t1', a1, a2, a3, a4, a5⟩ := down_loop h l hl (u : Int) 4 0 t (by omega) (by omega) (by omega) (by omega) (by rw [show t - ((4 : Nat) : Int) = t - 4 by omega]; exact n1)
 obtain ⟨P, b1, b2, b3, b4, b5⟩ := up_loop' h l hl (u : Int) 4 0 t1' (by omega) (by omega) (by omega) (by omega) a3 (by
  rcases a4 with e | e
  ·rw [e, show t + ((4 : Nat) : Int) + 1 = t + 5 by omega]; exact n2
  ·exact Nat.lt_of_lt_of_le e (un_mono l (by omega)))
 refine ⟨P, b1, b2, b3, b4, fun {z} hz => ?_⟩
 refine Ev.step (f := fun k => (r2_Length.f k (rl p)).bind fun t794 => ((r2_Length.f k (rl q)).bind fun t795 => (r2_Shortest.l0 k (u : Int) (rl p) (rl q) (wrap64 (Int.tdiv (wrap64 ((wrap64 (t794 - t795)) * 30103)) 100000)) 0))) (fun k => by rw [r2_Shortest.j0]) (Ev.bind t1 (Ev.bind t2 ?_))
 rw [hL, w64 (x := L) (by omega) (by omega), w64 (x := L * 30103) (by omega) (by omega), ht, w64 (x := t) (by omega) (by omega)]
 refine a5 (Ev.step (fun k => by rw [r2_Shortest.j2]) (b5 (Ev.step (fun k => by rw [r2_Shortest.j4]) hz)))
theorem fv_den {u : Nat} (h : u < P52) : fv u = u ∧ fv (u + 1) = u + 1 := by
 refine ⟨fv_sub h, ?_⟩
 by_cases h1 : u + 1 < P52
 ·exact fv_sub h1
 ·have e : u + 1 = P52 := by omega
  rw [e]; decide
theorem near_den {u l n : Nat} (hu : u < P52) (h : Rd u l n) : 2 * n ≤ 2 * (fv u * 10 ^ l) + 10 ^ l := by
 have hw : wordU n (10 ^ l) = u := by
  unfold Rd at h
  rw [wordQ_U] at h
  have : u < INF := by unfold P52 INF at *; omega
  omega
 have h1 := (near n (10 ^ l) (Nat.pow_pos (by omega))).1
 rw [hw, (fv_den hu).1, (fv_den hu).2, Nat.add_mul, Nat.add_mul, Nat.one_mul] at h1
 rw [(fv_den hu).1]
 omega
theorem den_two : decW 1 (-323) = 2 := by decide +kernel
theorem un_323 (l : Nat) (hl : 324 ≤ l) : un (-323) l * 10 ^ 323 = 10 ^ l * 2 ^ 1074 := by
 have hx : (-323 + (l : Int)).toNat + 323 = l := by omega
 unfold un
 rw [Nat.mul_right_comm, ← Nat.pow_add, hx]
theorem un_324 (l : Nat) (hl : 324 ≤ l) : un (-324) l * 10 ^ 324 = 10 ^ l * 2 ^ 1074 := by
 have hx : (-324 + (l : Int)).toNat + 324 = l := by omega
 unfold un
 rw [Nat.mul_right_comm, ← Nat.pow_add, hx]
theorem mul_cut {a b c d e : Nat} (hc : 0 < c) (h : b * c = d * e) (hd : a * c ≤ d * e) : a ≤ b := by
 rw [← h] at hd
 exact Nat.le_of_mul_le_mul_right hd hc
theorem unit_le (l : Nat) (hl : 324 ≤ l) : 10 ^ l ≤ un (-323) l := by
 have k1 : 10 ^ 323 ≤ 2 ^ 1074 := by decide +kernel
 exact mul_cut (Nat.pow_pos (by decide)) (un_323 l hl) (Nat.mul_le_mul_left _ k1)
theorem unit_gt (l : Nat) (hl : 324 ≤ l) : un (-324) l < 10 ^ l := by
 have k2 : 2 ^ 1074 < 10 ^ 324 := by decide +kernel
 have h1 : un (-324) l * 10 ^ 324 < 10 ^ l * 10 ^ 324 := by
  rw [un_324 l hl]
  exact Nat.mul_lt_mul_of_pos_left k2 (Nat.pow_pos (by decide))
 exact Nat.lt_of_mul_lt_mul_right h1
theorem unit_19 (l : Nat) (hl : 324 ≤ l) : 19 * un (-324) l ≤ 2 * 2 * 10 ^ l := by
 have k3 : 19 * 2 ^ 1074 ≤ 4 * 10 ^ 324 := by decide +kernel
 have h1 : 19 * un (-324) l * 10 ^ 324 ≤ 2 * 2 * 10 ^ l * 10 ^ 324 := by
  rw [Nat.mul_assoc, un_324 l hl, Nat.mul_left_comm, Nat.mul_comm (2 * 2) (10 ^ l), Nat.mul_assoc]
  exact Nat.mul_le_mul_left _ k3
 exact Nat.le_of_mul_le_mul_right h1 (Nat.pow_pos (by decide))
theorem den_place {u l : Nat} (h0 : 0 < u) (hu : u < P52) (hl : 1000 ≤ l) {P Y : Int} (hP : -600 ≤ P) (hPF : un P l ≤ fv u * 10 ^ l) (hFP : fv u * 10 ^ l < un (P + 1) l) (hY : P + 1 ≤ Y) (hok : decW 1 Y = u) : Y = P + 1 ∧ pick u l P = some 10 := by
 have hui : u < INF := by unfold P52 INF at *; omega
 have hg : 0 < 10 ^ l := Nat.pow_pos (by omega)
 have hl' : 324 ≤ l := by omega
 have hF1 : 10 ^ l ≤ fv u * 10 ^ l := Nat.le_mul_of_pos_left _ (fv_pos h0)
 have hRd : Rd u l (un Y l) := by unfold Rd; rw [← Nat.one_mul (un Y l), ← decW_un 1 Y l (by omega)]; exact hok
 have hn := near_den hu hRd
 have hYe : Y = P + 1 := by
  refine Int.le_antisymm (Int.not_lt.1 fun hc => ?_) hY
  have h1 := un_mono l (show P + 1 + 1 ≤ Y by omega)
  rw [un_succ (P + 1) l (by omega)] at h1
  omega
 refine ⟨hYe, ?_⟩
 rw [hYe] at hRd hn hok
 have hs := un_succ P l (by omega)
 have h19 : 19 * un P l ≤ 2 * (fv u * 10 ^ l) := by
  by_cases hc : 10 ^ l ≤ un P l
  ·rw [hs] at hn; omega
  ·-- 10^P is below the least float
   have hP1 : P ≤ -324 := by
    refine Int.not_lt.1 fun hcc => hc ?_
    exact Nat.le_trans (unit_le l hl') (un_mono l (by omega))
   have hP2 : -324 ≤ P := by
    refine Int.not_lt.1 fun hcc => ?_
    have h1 := Nat.lt_of_lt_of_le hFP (un_mono l (show P + 1 ≤ (-324 : Int) by omega))
    have h2 := unit_gt l hl'
    exact absurd (Nat.lt_of_le_of_lt hF1 h1) (Nat.not_lt.2 (Nat.le_of_lt h2))
   have hPe : P = -324 := Int.le_antisymm hP1 hP2
   have hu2 : u = 2 := by
    have h3 := hok
    rw [hPe, show (-324 : Int) + 1 = -323 by decide, den_two] at h3
    exact h3.symm
   have h4 := unit_19 l hl'
   rw [hPe, hu2, show fv 2 = 2 by decide, ← Nat.mul_assoc]
   exact h4
 have hT := un_pos P l
 have hok10 : Ok u P 10 := by
  refine ⟨by omega, ?_⟩
  rw [decW_un 10 P l (by omega), ← hs]
  exact hRd
 obtain ⟨F, hF⟩ : ∃ F, fv u * 10 ^ l = F := ⟨_, rfl⟩
 obtain ⟨T, hTe⟩ : ∃ T, un P l = T := ⟨_, rfl⟩
 rw [hs] at hFP
 unfold pick
 rw [hF, hTe] at hFP h19 ⊢
 rw [hTe] at hT
 have hd : F / T = 9 := by
  have h1 : 9 ≤ F / T := (Nat.le_div_iff_mul_le hT).2 (by omega)
  have h2 : F / T < 10 := by rw [Nat.div_lt_iff_lt_mul hT]; exact hFP
  omega
 have hm := Nat.div_add_mod F T
 rw [hd] at hm
 have hf : fst F T = 10 := by
  unfold fst rne
  rw [hd, if_pos]
  by_cases hc : T < 2 * (F % T)
  ·exact .inl hc
  ·exact .inr ⟨by omega, by decide⟩
 rw [hf, if_pos hok10]
theorem shortest_ok (u : Nat) (h0 : 0 < u) (hu : u < INF) {pw Y : Int} {d D j : Nat} (t : Told u 1000 pw Y d D j) (h1 : fv u * 10 ^ 1000 < un (pw + 1) 1000) (h2 : P52 ≤ u → un pw 1000 ≤ fv u * 10 ^ 1000) : Ev (fun k => r2_Shortest.f k (u : Int)) ((D : Int), Y + j) := by
 obtain ⟨l, hl⟩ : ∃ l : Nat, l = 1000 := ⟨1000, rfl⟩
 have t' : Told u l pw Y d D j := by rw [hl]; exact t
 rw [← hl] at h1 h2
 clear t
 have hl' : 1000 ≤ l := by omega
 obtain ⟨p, q, hf, b1, b2, hst⟩ := parts_frac u h0 hu
 obtain ⟨P, c1, c2, c3, c4, c5⟩ := top_place hf b1 b2 l hl'
 have hlow := t'.low
 have hle := t'.le
 have hhigh := t'.high
 have hPpw : P ≤ pw := by
  refine Int.not_lt.1 fun hc => ?_
  have := un_mono l (show pw + 1 ≤ P by omega)
  omega
 have hok := (pick_ok t'.pick).1
 by_cases hYP : Y ≤ P
 ·have h17 : P - 16 ≤ Y := by
   refine Int.not_lt.1 fun hc => ?_
   have h3 := un_mono l (show Y + 17 ≤ P by omega)
   have h4 := t'.over
   omega
  obtain ⟨D', j', e1, e2, e3⟩ := place_loop hu hf l hl' P c3 c4 c2 Y d t'.pick (fun z hz1 hz2 => t'.none z hz1 (by omega)) h17 (P - Y).toNat P 1 (by omega) (by omega) (by omega)
  obtain ⟨g1, g2⟩ := strip_eq t'.bare e1 (i := j) (j := j') (by rw [← t'.strip, ← e2])
  rw [g1, g2]
  exact hst (c5 e3)
 ·have hden : u < P52 := by
   refine Nat.not_le.1 fun hc => ?_
   have h3 := h2 hc
   have h4 := un_mono l (show P + 1 ≤ pw by omega)
   omega
  have hdl := (pick_ok t'.pick).2
  have hz : fv u * 10 ^ l / un Y l = 0 := Nat.div_eq_of_lt (Nat.lt_of_lt_of_le c2 (un_mono l (by omega)))
  have hd1 : d = 1 := by rw [hz] at hdl; have := hok.1; omega
  obtain ⟨g1, g2⟩ := strip_eq t'.bare (show (1 : Nat) % 10 ≠ 0 by decide) (i := j) (j := 0) (by rw [← t'.strip, hd1])
  have hokY := hok.2
  rw [hd1] at hokY
  obtain ⟨f1, f2⟩ := den_place h0 hden hl' c3 c1 c2 (by omega) hokY
  obtain ⟨D', j', e1, e2, e3⟩ := place_loop hu hf l hl' P c3 c4 c2 P 10 f2 (fun z hz1 hz2 => by omega) (by omega) 0 P 1 (by omega) (by omega) (by omega)
  obtain ⟨g3, g4⟩ := strip_eq (show (1 : Nat) % 10 ≠ 0 by decide) e1 (i := 1) (j := j') (by rw [← e2])
  rw [g1, g2, f1]
  rw [← g3, ← g4] at e3
  have e4 : P + 1 + ((0 : Nat) : Int) = P + ((1 : Nat) : Int) := by omega
  rw [e4]
  exact hst (c5 e3)
theorem rprint_fin (u : Nat) (h0 : 0 < u) (hu : u < INF) (neg : Bool) (D : Nat) (X : Int) (hD : D < 10 ^ 17) (hX0 : -999 ≤ X) (hX1 : X ≤ 999) (hs : Ev (fun k => r2_Shortest.f k (u : Int)) ((D : Int), X)) :
  ∃ t : ByteArray, Ev (fun k => r2_Print.j0 k (u : Int) (sgB neg)) t ∧ bytesOf t = bytesOf (sgB neg ++ wtext D X) := by
 obtain ⟨tD, d1, d2, d3⟩ := decimal_ok D (by omega)
 have sg := sgB_size neg
 have hs2 : (⟨#[101, 45]⟩ : ByteArray).size = 2 := rfl
 have hs1 : (⟨#[101]⟩ : ByteArray).size = 1 := rfl
 have hsz : (sgB neg ++ tD).size ≤ 101 := by rw [ByteArray.size_append]; omega
 have hst : ∀ k, r2_Print.j0 (k + 1) (u : Int) (sgB neg) = (r2_Shortest.f k (u : Int)).bind fun bt827 => ((r2_decimal.f k bt827.1).bind fun t829 => (if (sgB neg).size + t829.size ≤ 9223372036854775807 then (if bt827.2 < 0 then (if (sgB neg ++ t829).size + 2 ≤ 9223372036854775807 then ((r2_decimal.f k (IntKind.u64.wrap (wrap64 (-bt827.2)))).bind fun t830 => (if ((sgB neg ++ t829) ++ (⟨#[101, 45]⟩ : ByteArray)).size + t830.size ≤ 9223372036854775807 then (some (((sgB neg ++ t829) ++ (⟨#[101, 45]⟩ : ByteArray)) ++ t830)) else (none))) else (none)) else (if bt827.2 > 0 then (if (sgB neg ++ t829).size + 1 ≤ 9223372036854775807 then ((r2_decimal.f k (IntKind.u64.wrap (bt827.2))).bind fun t831 => (if ((sgB neg ++ t829) ++ (⟨#[101]⟩ : ByteArray)).size + t831.size ≤ 9223372036854775807 then (some (((sgB neg ++ t829) ++ (⟨#[101]⟩ : ByteArray)) ++ t831)) else (none))) else (none)) else (some (sgB neg ++ t829)))) else (none))) := by
  intro k
  rw [r2_Print.j0, if_neg (by unfold INF at hu; omega), if_neg (by unfold INF at hu; omega), if_neg (by omega)]
 by_cases hn : X < 0
 ·obtain ⟨tX, x1, x2, x3⟩ := decimal_ok X.natAbs (by omega)
  refine ⟨((sgB neg ++ tD) ++ (⟨#[101, 45]⟩ : ByteArray)) ++ tX, Ev.step hst (Ev.bind hs (Ev.bind d1 ?_)), ?_⟩
  ·have e1 : IntKind.u64.wrap (wrap64 (-X)) = ((X.natAbs : Nat) : Int) := by rw [w64 (x := -X) (by omega) (by omega), wu64 (by omega) (by omega)]; omega
   refine Ev.congr (fun k => by rw [if_pos (by omega), if_pos hn, if_pos (by omega), e1]) (Ev.bind x1 ?_)
   exact Ev.congr (f := fun _ => some (((sgB neg ++ tD) ++ (⟨#[101, 45]⟩ : ByteArray)) ++ tX)) (fun k => by rw [if_pos (by rw [ByteArray.size_append, hs2]; omega)]) (Ev.now _)
  ·rw [bytesOf_append, bytesOf_append, bytesOf_append, bytesOf_append, wtext_bytes, d2, x2, if_neg (by omega)]
   unfold ix
   rw [if_pos hn, List.append_assoc, List.append_assoc]; rfl
 ·by_cases hp : X > 0
  ·obtain ⟨tX, x1, x2, x3⟩ := decimal_ok X.toNat (by omega)
   refine ⟨((sgB neg ++ tD) ++ (⟨#[101]⟩ : ByteArray)) ++ tX, Ev.step hst (Ev.bind hs (Ev.bind d1 ?_)), ?_⟩
   ·have e1 : IntKind.u64.wrap X = ((X.toNat : Nat) : Int) := by rw [wu64 (by omega) (by omega)]; omega
    refine Ev.congr (fun k => by rw [if_pos (by omega), if_neg hn, if_pos hp, if_pos (by omega), e1]) (Ev.bind x1 ?_)
    exact Ev.congr (f := fun _ => some (((sgB neg ++ tD) ++ (⟨#[101]⟩ : ByteArray)) ++ tX)) (fun k => by rw [if_pos (by rw [ByteArray.size_append, hs1]; omega)]) (Ev.now _)
   ·rw [bytesOf_append, bytesOf_append, bytesOf_append, bytesOf_append, wtext_bytes, d2, x2, if_neg (by omega)]
    unfold ix
    rw [if_neg hn, List.append_assoc, List.append_assoc]; rfl
  ·refine ⟨sgB neg ++ tD, Ev.step hst (Ev.bind hs (Ev.bind d1 ?_)), ?_⟩
   ·exact Ev.congr (f := fun _ => some (sgB neg ++ tD)) (fun k => by rw [if_pos (by omega), if_neg hn, if_neg hp]) (Ev.now _)
   ·rw [bytesOf_append, bytesOf_append, wtext_bytes, d2, if_pos (by omega), List.append_nil]
theorem rprint_sign (x : Nat) (hx : x < 18446744073709551616) {t : ByteArray} (h : Ev (fun k => r2_Print.j0 k ((x % P63 : Nat) : Int) (sgB (decide (P63 ≤ x)))) t) : Ev (fun k => r2_Print.f k (x : Int)) t := by
 unfold r2_Print.f
 by_cases hc : P63 ≤ x
 ·rw [decide_eq_true hc] at h
  have e : IntKind.u64.wrap ((x : Int) - 9223372036854775808) = ((x % P63 : Nat) : Int) := by rw [wu64 (by unfold P63 at hc; omega) (by omega)]; unfold P63 at *; omega
  exact Ev.congr (fun k => by rw [if_pos (by unfold P63 at hc; omega), e]; rfl) h
 ·rw [decide_eq_false hc] at h
  have e : x % P63 = x := Nat.mod_eq_of_lt (by omega)
  rw [e] at h
  exact Ev.congr (fun k => by rw [if_neg (by unfold P63 at hc; omega)]; rfl) h
theorem both_print (x : Nat) (hx : x < 18446744073709551616) : ∃ s t : ByteArray, Ev (fun k => w2_Print.f k x) s ∧ Ev (fun k => r2_Print.f k (x : Int)) t ∧ bytesOf s = bytesOf t := by
 have sg := sgB_size (decide (P63 ≤ x))
 by_cases hn : INF < x % P63
 ·refine ⟨_, ⟨#[110, 97, 110]⟩, print_nan x hx hn, rprint_sign x hx ?_, rfl⟩
  exact Ev.step (f := fun _ => some ⟨#[110, 97, 110]⟩) (fun k => by rw [r2_Print.j0, if_pos (by unfold INF at hn; omega)]) (Ev.now _)
 ·by_cases hi : x % P63 = INF
  ·refine ⟨_, sgB (decide (P63 ≤ x)) ++ ⟨#[105, 110, 102]⟩, print_inf x hx hi, rprint_sign x hx ?_, rfl⟩
   exact Ev.step (f := fun _ => some (sgB (decide (P63 ≤ x)) ++ ⟨#[105, 110, 102]⟩)) (fun k => by rw [r2_Print.j0, hi, if_neg (by unfold INF; omega), if_pos (by unfold INF; omega), if_pos (by omega)]) (Ev.now _)
  ·by_cases hz : x % P63 = 0
   ·refine ⟨_, sgB (decide (P63 ≤ x)) ++ ⟨#[48]⟩, print_zero x hx hz, rprint_sign x hx ?_, rfl⟩
    exact Ev.step (f := fun _ => some (sgB (decide (P63 ≤ x)) ++ ⟨#[48]⟩)) (fun k => by rw [r2_Print.j0, hz, if_neg (by omega), if_neg (by omega), if_pos (by omega), if_pos (by omega)]) (Ev.now _)
   ·have h0 : 0 < x % P63 := by omega
    have hf : x % P63 < INF := by omega
    obtain ⟨pw, Y, d, D, j, t1, t2, t3, t4⟩ := print_fin x 1000 hx h0 hf (Nat.le_refl _)
    have hs := shortest_ok (x % P63) h0 hf t1 t2 t3
    have a1 := t1.low
    have a2 := t1.le
    have a3 := t1.high
    have a4 := t1.few
    obtain ⟨t, r1, r2⟩ := rprint_fin (x % P63) h0 hf (decide (P63 ≤ x)) D (Y + j) t1.small (by omega) (by omega) hs
    exact ⟨_, t, t4, rprint_sign x hx r1, r2.symm⟩
theorem WeighPrints_ok (x : Nat) (hx : x < 18446744073709551616) : ∃ k, endonymlaw2_WeighPrints.f k (x : Int) = some true := by
 refine Ev.rounds ?_
 unfold endonymlaw2_WeighPrints.f
 obtain ⟨s, t, h1, h2, h3⟩ := both_print x hx
 refine Ev.bind told_ok ?_
 have hf : api_Float.f (x : Int) = some x := by unfold api_Float.f; simp
 refine Ev.congr (fun k => by rw [if_pos rfl, hf, Option.bind_some]) (Ev.bind h1 (Ev.bind h2 ?_))
 have e : (s.toList == t.toList) = true := by rw [beq_iff_eq, bytesOf_toList]; exact h3
 rw [e]
 exact Ev.now _
end Go.Proofs.YtfmjdoofopamkaaGreatDoor.Plain
