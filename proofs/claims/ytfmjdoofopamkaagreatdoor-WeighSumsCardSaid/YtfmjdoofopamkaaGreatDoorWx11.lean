import Derived.Test.YtfmjdoofopamkaaGreatDoorWx0
import Derived.Test.YtfmjdoofopamkaaGreatDoorWx4
import Derived.Test.YtfmjdoofopamkaaGreatDoorWx6
import Derived.Test.YtfmjdoofopamkaaGreatDoorWx8
import Derived.Test.YtfmjdoofopamkaaGreatDoorWx9
import Derived.Test.YtfmjdoofopamkaaGreatDoorWx10
namespace Go.Proofs.YtfmjdoofopamkaaGreatDoor.W
open Go.RowKit Go.Proofs.YtfmjdoofopamkaaGreatDoorW.PrintWords Go.Proofs.YtfmjdoofopamkaaGreatDoorW.PrintLast Go.Proofs.YtfmjdoofopamkaaGreatDoorW.PrintMore
set_option maxHeartbeats 8000000
set_option maxRecDepth 100000
attribute [local go_sem] max2_int min2_int max_two min_two max_three min_three max_four min_four
set_option linter.unusedVariables false
set_option linter.unusedSimpArgs false
def weigh_Mean.l0 : Nat → List Nat → List Nat → Int → Int → Option (Nat × Bool)
 | 0, _, _, _, _ => none
 | k + 1, x0, x9, x10, x11 => if x11 < x10 then (if 0 ≤ x11 then (if x11 < (x9.length : Int) then (if (FloatKind.f64.format.order (rdOf 0 x9 x11) (rdOf 0 x9 x11) != some .eq) = true then (some ((0 : Nat), false)) else ((math_IsInf.f (rdOf 0 x9 x11) 0).bind fun t437 => (if t437 = true then (some ((0 : Nat), false)) else (weigh_Mean.l0 k x0 x9 x10 (wrap64 (x11 + 1)))))) else (none)) else (none)) else ((weigh_shared.f k x0 (x0.length : Int)).bind fun t438 => (some (t438, true)))
def weigh_Mean.f (k : Nat) (l0 : List Nat) : Option (Nat × Bool) := if (l0.length : Int) = 0 then (some ((0 : Nat), false)) else (weigh_Mean.l0 k l0 l0 (l0.length : Int) 0)
theorem weigh_Mean.mono_l : ∀ k, (∀ y0 y1 y2 y3, LeO (weigh_Mean.l0 k y0 y1 y2 y3) (weigh_Mean.l0 (k + 1) y0 y1 y2 y3))
 | 0 => fun _ _ _ _ r h => by simp [weigh_Mean.l0] at h
 | k + 1 => by
  have ih0 := weigh_Mean.mono_l k
  intro y0 y1 y2 y3
  unfold weigh_Mean.l0
  repeat' first | (with_reducible first | apply ih0 | apply weigh_shared.mono | apply LeO.refl | apply LeO.none | refine LeO.ite ?_ ?_ | refine LeO.bind ?_ (fun _ => ?_)) | apply LeO.none | refine LeO.ite ?_ ?_ | refine LeO.bind ?_ (fun _ => ?_)
theorem weigh_Mean.mono : ∀ a0 k, LeO (weigh_Mean.f k a0) (weigh_Mean.f (k + 1) a0) := by
 intro a0 k
 have ih0 := weigh_Mean.mono_l k
 unfold weigh_Mean.f
 repeat' first | (with_reducible first | apply ih0 | apply weigh_shared.mono | apply LeO.refl | apply LeO.none | refine LeO.ite ?_ ?_ | refine LeO.bind ?_ (fun _ => ?_)) | apply LeO.none | refine LeO.ite ?_ ?_ | refine LeO.bind ?_ (fun _ => ?_)
theorem weigh_Mean.calls (k : Nat) (A0 : Option Addr) (c0 : Nat) (l0 : List Nat) (r1 : Nat) (r2 : Bool) (w : World) (hr0 : Kd.C Kd.flt w A0 l0.length l0) (hc0 : l0.length ≤ c0) (h : weigh_Mean.f k l0 = some (r1, r2)) :
  Calls Tryz.prog 22 #[.slice A0 l0.length c0] w fun e w' => e = .returned (.tuple #[.float .f64 r1, .bool r2]) ∧ Below w.heap.size w w' := by
 have HR0 := Aside0.mk hr0
 have HC0 := Aside0.mk hc0
 clear hr0 hc0
 have HB := Aside0.mk (Below.refl w.heap.size w)
 have H : (if (l0.length : Int) = 0 then (some ((0 : Nat), false)) else (weigh_Mean.l0 k l0 l0 (l0.length : Int) 0)) = some (r1, r2) := h
 clear h
 by_cases c2 : (l0.length : Int) = 0
 ·rw [if_pos c2] at H
  have c2b0 := beq_iff_eq.mpr c2
  have c2b1 := bne_eq_false_iff_eq.mpr c2
  clear c2
  simp only [Option.some.injEq, Prod.mk.injEq] at H
  obtain ⟨rfl, rfl⟩ := H
  go_enter Tryz.func22, Tryz.ntmps22
  go_wp2
  go_ret2
  exact ⟨sqE', sqB⟩
 rw [if_neg c2] at H
 have c2b0 := beq_eq_false_iff_ne.mpr c2
 have c2b1 := bne_iff_ne.mpr c2
 have c2b2 : ¬ (l0 = []) := fun h_ => c2 (by rw [h_]; rfl)
 have H' := Aside0.mk H
 clear H
 go_enter Tryz.func22, Tryz.ntmps22
 go_wp2
 go_loopg [11] k (fun kq v11 w' => ∃ (x11_1 : Int), v11 = .int .i64 x11_1 ∧ Aside0 (weigh_Mean.l0 kq l0 l0 (l0.length : Int) x11_1 = some (r1, r2)) ∧ Aside0 (kq ≤ k) ∧ Aside0 (Below w.heap.size w w'))
 case atStart => exact ⟨(0), sqE, H', ⟨Nat.le_refl _⟩, ⟨sqB⟩⟩
 case round =>
  clear H'
  try clear c2
  try clear c2b0
  try clear c2b1
  try clear c2b2
  try clear p2
  obtain ⟨x11_1, rfl, HA, HK1, HB⟩ := hrel
  cases gk with
  | zero => exact absurd HA.out (by simp [weigh_Mean.l0])
  | succ k1 =>
   have H := HA.out
   clear HA
   simp only [weigh_Mean.l0] at H
   by_cases c3 : x11_1 < (l0.length : Int)
   case neg =>
    rw [if_neg c3] at H
    have c3b0 := decide_eq_false c3
    clear c3
    obtain ⟨t438, A9, H⟩ := sqO H
    try dsimp only at H
    simp only [Option.some.injEq, Prod.mk.injEq] at H
    obtain ⟨rfl, rfl⟩ := H
    go_wp2_with (first | ((with_reducible refine gate_callee (f := 45) rfl ?_); refine goesL_ (some 26) rfl rfl Tryz.func45 (by kernel_rfl) rfl #[.slice A0 l0.length c0, .int .i64 (l0.length : Int)] rfl sqA ?_; (with_reducible refine (weigh_shared.calls k1 _ _ l0 (l0.length : Int) t438 _ ?side1 ?side2 A9.out).mono ?_); (case side1 => repeat (first | exact (Kd.C_below HR0.out HB.out) | (with_reducible refine Kd.C_alloc ?_ _) | (with_reducible refine Kd.C_drewN ?_ _) | (with_reducible refine Kd.C_drew ?_))); (case side2 => exact HC0.out); rintro e w10 ⟨rfl, hb⟩; refine ⟨_, rfl, ?_⟩; have n0_ := Aside0.mk (below_step sqB hb); clear HB; have HB := n0_; clear n0_; (try clear hb); (try clear hb2); (try clear hk); (try clear hi)))
    go_ret2
    exact ⟨sqE', sqB⟩
   rw [if_pos c3] at H
   have c3b0 := decide_eq_true c3
   clear c3
   by_cases c4 : 0 ≤ x11_1
   case neg => rw [if_neg c4] at H; exact absurd H (by simp)
   rw [if_pos c4] at H
   have c4b0 := decide_eq_true c4
   clear c4
   by_cases c5 : x11_1 < (l0.length : Int)
   case neg => rw [if_neg c5] at H; exact absurd H (by simp)
   rw [if_pos c5] at H
   have c5b0 := decide_eq_true c5
   clear c5
   by_cases c6 : (FloatKind.f64.format.order (rdOf 0 l0 x11_1) (rdOf 0 l0 x11_1) != some .eq) = true
   ·rw [if_pos c6] at H
    have c6b0 : (FloatKind.f64.format.order (rdOf 0 l0 x11_1) (rdOf 0 l0 x11_1) != some .eq) = true := c6
    (try (have c6b1 : decide (FloatKind.f64.format.order (rdOf 0 l0 x11_1) (rdOf 0 l0 x11_1) = some .eq) = false := by simpa using c6))
    (try (have c6b2 : (FloatKind.f64.format.order (rdOf 0 l0 x11_1) (rdOf 0 l0 x11_1) == some .eq) = false := by simpa using c6))
    (try (have c6b3 : ¬ (FloatKind.f64.format.order (rdOf 0 l0 x11_1) (rdOf 0 l0 x11_1) = some .eq) := by simpa using c6))
    clear c6
    simp only [Option.some.injEq, Prod.mk.injEq] at H
    obtain ⟨rfl, rfl⟩ := H
    have p436 : 0 ≤ (x11_1 : Int) := sqD
    have q436 : x11_1 < (l0.length : Int) := sqD
    obtain ⟨ad436, e436, hx436_0⟩ := Kd.at_flt HR0.out x11_1 p436 q436
    cases e436
    replace hx436_0 := (HB.out.cell (World.block_lt_of_cell? w _ hx436_0)).trans hx436_0
    replace p436 := eq_true p436
    replace q436 := eq_true q436
    go_wp2
    go_ret2
    exact ⟨sqE', sqB⟩
   rw [if_neg c6] at H
   have c6b0 : (FloatKind.f64.format.order (rdOf 0 l0 x11_1) (rdOf 0 l0 x11_1) != some .eq) = false := by simpa using c6
   (try (have c6b1 : decide (FloatKind.f64.format.order (rdOf 0 l0 x11_1) (rdOf 0 l0 x11_1) = some .eq) = true := by simpa using c6))
   (try (have c6b2 : (FloatKind.f64.format.order (rdOf 0 l0 x11_1) (rdOf 0 l0 x11_1) == some .eq) = true := by simpa using c6))
   clear c6
   obtain ⟨t437, A7, H⟩ := sqO H
   try dsimp only at H
   by_cases c8 : t437 = true
   ·subst c8
    have H1 : (some ((0 : Nat), false)) = some (r1, r2) := by rw [if_pos rfl] at H; exact H
    clear H
    have H := H1
    clear H1
    simp only [Option.some.injEq, Prod.mk.injEq] at H
    obtain ⟨rfl, rfl⟩ := H
    have p436 : 0 ≤ (x11_1 : Int) := sqD
    have q436 : x11_1 < (l0.length : Int) := sqD
    obtain ⟨ad436, e436, hx436_0⟩ := Kd.at_flt HR0.out x11_1 p436 q436
    cases e436
    replace hx436_0 := (HB.out.cell (World.block_lt_of_cell? w _ hx436_0)).trans hx436_0
    replace p436 := eq_true p436
    replace q436 := eq_true q436
    go_wp2_with (first | (go_at_call 30; (with_reducible refine (math_IsInf.calls (rdOf 0 l0 x11_1) 0 true _ A7.out).mono ?_); rintro e w' ⟨rfl, ⟨nd, rfl⟩⟩))
    go_ret2
    exact ⟨sqE', sqB⟩
   replace c8 := Bool.eq_false_iff.mpr c8
   subst c8
   have H1 : (weigh_Mean.l0 k1 l0 l0 (l0.length : Int) (wrap64 (x11_1 + 1))) = some (r1, r2) := by rw [if_neg (show ¬ (false = true) by decide)] at H; exact H
   clear H
   have H := H1
   clear H1
   have H' := Aside0.mk H
   clear H
   have p436 : 0 ≤ (x11_1 : Int) := sqD
   have q436 : x11_1 < (l0.length : Int) := sqD
   obtain ⟨ad436, e436, hx436_0⟩ := Kd.at_flt HR0.out x11_1 p436 q436
   cases e436
   replace hx436_0 := (HB.out.cell (World.block_lt_of_cell? w _ hx436_0)).trans hx436_0
   replace p436 := eq_true p436
   replace q436 := eq_true q436
   go_wp2_with (first | (go_at_call 30; (with_reducible refine (math_IsInf.calls (rdOf 0 l0 x11_1) 0 false _ A7.out).mono ?_); rintro e w' ⟨rfl, ⟨nd, rfl⟩⟩))
   go_roundg k1
   case measure => have := HK1.out; omega
   case rel => exact ⟨(wrap64 (x11_1 + 1)), sqE, H', ⟨by have := HK1.out; omega⟩, ⟨sqB⟩⟩
def api_Bits.f (a0 : Nat) : Option (Int) := some ((a0 : Nat) : Int)
theorem api_Bits.calls (a0 : Nat) (r : Int) (w : World) (h : api_Bits.f a0 = some r) :
  Calls Tryz.prog 10 #[.float .f64 a0] w fun e w' => e = .returned (.int .u64 r) ∧ Drawn0 w w' := by
 have H : (some ((a0 : Nat) : Int)) = some r := h
 clear h
 have hf2 := fun w_ : World => Rm.x_Float64bits a0 w_
 obtain rfl := Option.some.inj H
 go_enter Tryz.func10, Tryz.ntmps10
 go_wp2
 go_ret
 exact ⟨sqE, sqW⟩
def weigh_rank.f (a0 : Nat) : Option (Int) := if (FloatKind.f64.format.order a0 a0 != some .eq) = true then (some 9223372036854775807) else ((api_Bits.f a0).bind fun t439 => (if (wrap64 (t439)) < 0 then (some (wrap64 ((wrap64 ((-9223372036854775808) - (wrap64 (t439)))) - 1))) else (some (wrap64 (t439)))))
theorem weigh_rank.calls (a0 : Nat) (r : Int) (w : World) (h : weigh_rank.f a0 = some r) :
  Calls Tryz.prog 66 #[.float .f64 a0] w fun e w' => e = .returned (.int .i64 r) ∧ Drawn0 w w' := by
 have H : (if (FloatKind.f64.format.order a0 a0 != some .eq) = true then (some 9223372036854775807) else ((api_Bits.f a0).bind fun t439 => (if (wrap64 (t439)) < 0 then (some (wrap64 ((wrap64 ((-9223372036854775808) - (wrap64 (t439)))) - 1))) else (some (wrap64 (t439)))))) = some r := h
 clear h
 by_cases c2 : (FloatKind.f64.format.order a0 a0 != some .eq) = true
 ·rw [if_pos c2] at H
  have c2b0 : (FloatKind.f64.format.order a0 a0 != some .eq) = true := c2
  (try (have c2b1 : decide (FloatKind.f64.format.order a0 a0 = some .eq) = false := by simpa using c2))
  (try (have c2b2 : (FloatKind.f64.format.order a0 a0 == some .eq) = false := by simpa using c2))
  (try (have c2b3 : ¬ (FloatKind.f64.format.order a0 a0 = some .eq) := by simpa using c2))
  clear c2
  obtain rfl := Option.some.inj H
  go_enter Tryz.func66, Tryz.ntmps66
  go_wp2
  go_ret
  exact ⟨sqE, sqW⟩
 rw [if_neg c2] at H
 have c2b0 : (FloatKind.f64.format.order a0 a0 != some .eq) = false := by simpa using c2
 (try (have c2b1 : decide (FloatKind.f64.format.order a0 a0 = some .eq) = true := by simpa using c2))
 (try (have c2b2 : (FloatKind.f64.format.order a0 a0 == some .eq) = true := by simpa using c2))
 clear c2
 obtain ⟨t439, A3, H⟩ := sqO H
 try dsimp only at H
 by_cases c4 : (wrap64 (t439)) < 0
 ·rw [if_pos c4] at H
  have c4b0 := decide_eq_true c4
  clear c4
  obtain rfl := Option.some.inj H
  go_enter Tryz.func66, Tryz.ntmps66
  go_wp2_with (first | ((with_reducible refine gate_callee (f := 10) rfl ?_); refine goesL_ (some 8) rfl rfl Tryz.func10 (by kernel_rfl) rfl #[.float .f64 a0] rfl sqA ?_; (with_reducible refine (api_Bits.calls a0 t439 _ A3.out).mono ?_); rintro e w' ⟨rfl, ⟨nd, rfl⟩⟩; refine ⟨_, rfl, ?_⟩))
  go_ret
  exact ⟨sqE, sqW⟩
 rw [if_neg c4] at H
 have c4b0 := decide_eq_false c4
 clear c4
 obtain rfl := Option.some.inj H
 go_enter Tryz.func66, Tryz.ntmps66
 go_wp2_with (first | ((with_reducible refine gate_callee (f := 10) rfl ?_); refine goesL_ (some 8) rfl rfl Tryz.func10 (by kernel_rfl) rfl #[.float .f64 a0] rfl sqA ?_; (with_reducible refine (api_Bits.calls a0 t439 _ A3.out).mono ?_); rintro e w' ⟨rfl, ⟨nd, rfl⟩⟩; refine ⟨_, rfl, ?_⟩))
 go_ret
 exact ⟨sqE, sqW⟩
def weigh_Order.f (a0 : Nat) (a1 : Nat) : Option (Int) := (weigh_rank.f a0).bind fun t440 => ((weigh_rank.f a1).bind fun t441 => (if t440 < t441 then (some (-1)) else (if t440 > t441 then (some 1) else (some 0))))
theorem weigh_Order.calls (a0 : Nat) (a1 : Nat) (r : Int) (w : World) (h : weigh_Order.f a0 a1 = some r) :
  Calls Tryz.prog 34 #[.float .f64 a0, .float .f64 a1] w fun e w' => e = .returned (.int .i64 r) ∧ Drawn0 w w' := by
 have H : ((weigh_rank.f a0).bind fun t440 => ((weigh_rank.f a1).bind fun t441 => (if t440 < t441 then (some (-1)) else (if t440 > t441 then (some 1) else (some 0))))) = some r := h
 clear h
 obtain ⟨t440, A3, H⟩ := sqO H
 try dsimp only at H
 obtain ⟨t441, A4, H⟩ := sqO H
 try dsimp only at H
 by_cases c5 : t440 < t441
 ·rw [if_pos c5] at H
  have c5b0 := decide_eq_true c5
  clear c5
  obtain rfl := Option.some.inj H
  go_enter Tryz.func34, Tryz.ntmps34
  go_wp2_with (first | ((with_reducible refine gate_callee (f := 66) rfl ?_); refine goesL_ (some 8) rfl rfl Tryz.func66 (by kernel_rfl) rfl #[.float .f64 a0] rfl sqA ?_; (with_reducible refine (weigh_rank.calls a0 t440 _ A3.out).mono ?_); rintro e w' ⟨rfl, ⟨nd, rfl⟩⟩; refine ⟨_, rfl, ?_⟩) | ((with_reducible refine gate_callee (f := 66) rfl ?_); refine goesL_ (some 10) rfl rfl Tryz.func66 (by kernel_rfl) rfl #[.float .f64 a1] rfl sqA ?_; (with_reducible refine (weigh_rank.calls a1 t441 _ A4.out).mono ?_); rintro e w' ⟨rfl, ⟨nd, rfl⟩⟩; refine ⟨_, rfl, ?_⟩))
  go_ret
  exact ⟨sqE, sqW⟩
 rw [if_neg c5] at H
 have c5b0 := decide_eq_false c5
 clear c5
 by_cases c6 : t440 > t441
 ·rw [if_pos c6] at H
  have c6b0 := decide_eq_true c6
  clear c6
  obtain rfl := Option.some.inj H
  go_enter Tryz.func34, Tryz.ntmps34
  go_wp2_with (first | ((with_reducible refine gate_callee (f := 66) rfl ?_); refine goesL_ (some 8) rfl rfl Tryz.func66 (by kernel_rfl) rfl #[.float .f64 a0] rfl sqA ?_; (with_reducible refine (weigh_rank.calls a0 t440 _ A3.out).mono ?_); rintro e w' ⟨rfl, ⟨nd, rfl⟩⟩; refine ⟨_, rfl, ?_⟩) | ((with_reducible refine gate_callee (f := 66) rfl ?_); refine goesL_ (some 10) rfl rfl Tryz.func66 (by kernel_rfl) rfl #[.float .f64 a1] rfl sqA ?_; (with_reducible refine (weigh_rank.calls a1 t441 _ A4.out).mono ?_); rintro e w' ⟨rfl, ⟨nd, rfl⟩⟩; refine ⟨_, rfl, ?_⟩))
  go_ret
  exact ⟨sqE, sqW⟩
 rw [if_neg c6] at H
 have c6b0 := decide_eq_false c6
 clear c6
 obtain rfl := Option.some.inj H
 go_enter Tryz.func34, Tryz.ntmps34
 go_wp2_with (first | ((with_reducible refine gate_callee (f := 66) rfl ?_); refine goesL_ (some 8) rfl rfl Tryz.func66 (by kernel_rfl) rfl #[.float .f64 a0] rfl sqA ?_; (with_reducible refine (weigh_rank.calls a0 t440 _ A3.out).mono ?_); rintro e w' ⟨rfl, ⟨nd, rfl⟩⟩; refine ⟨_, rfl, ?_⟩) | ((with_reducible refine gate_callee (f := 66) rfl ?_); refine goesL_ (some 10) rfl rfl Tryz.func66 (by kernel_rfl) rfl #[.float .f64 a1] rfl sqA ?_; (with_reducible refine (weigh_rank.calls a1 t441 _ A4.out).mono ?_); rintro e w' ⟨rfl, ⟨nd, rfl⟩⟩; refine ⟨_, rfl, ?_⟩))
 go_ret
 exact ⟨sqE, sqW⟩
def weigh_Narrow.f (a0 : Nat) : Option (Nat) := if (FloatKind.f64.format.order a0 a0 != some .eq) = true then ((api_Float.f 9221120237041090560).bind fun t442 => (some t442)) else ((floatToFloatBits .f64 a0 .f32).bind fun t443 => ((floatToFloatBits .f32 t443 .f64).bind fun t444 => (some t444)))
theorem weigh_Narrow.calls (a0 : Nat) (r : Nat) (w : World) (h : weigh_Narrow.f a0 = some r) :
  Calls Tryz.prog 35 #[.float .f64 a0] w fun e w' => e = .returned (.float .f64 r) ∧ Drawn0 w w' := by
 have H : (if (FloatKind.f64.format.order a0 a0 != some .eq) = true then ((api_Float.f 9221120237041090560).bind fun t442 => (some t442)) else ((floatToFloatBits .f64 a0 .f32).bind fun t443 => ((floatToFloatBits .f32 t443 .f64).bind fun t444 => (some t444)))) = some r := h
 clear h
 by_cases c2 : (FloatKind.f64.format.order a0 a0 != some .eq) = true
 ·rw [if_pos c2] at H
  have c2b0 : (FloatKind.f64.format.order a0 a0 != some .eq) = true := c2
  (try (have c2b1 : decide (FloatKind.f64.format.order a0 a0 = some .eq) = false := by simpa using c2))
  (try (have c2b2 : (FloatKind.f64.format.order a0 a0 == some .eq) = false := by simpa using c2))
  (try (have c2b3 : ¬ (FloatKind.f64.format.order a0 a0 = some .eq) := by simpa using c2))
  clear c2
  obtain ⟨t442, A3, H⟩ := sqO H
  try dsimp only at H
  obtain rfl := Option.some.inj H
  go_enter Tryz.func35, Tryz.ntmps35
  go_wp2_with (first | ((with_reducible refine gate_callee (f := 12) rfl ?_); refine goesL_ (some 6) rfl rfl Tryz.func12 (by kernel_rfl) rfl #[.int .u64 9221120237041090560] rfl sqA ?_; (with_reducible refine (api_Float.calls 9221120237041090560 t442 _ A3.out).mono ?_); rintro e w' ⟨rfl, ⟨nd, rfl⟩⟩; refine ⟨_, rfl, ?_⟩))
  go_ret
  exact ⟨sqE, sqW⟩
 rw [if_neg c2] at H
 have c2b0 : (FloatKind.f64.format.order a0 a0 != some .eq) = false := by simpa using c2
 (try (have c2b1 : decide (FloatKind.f64.format.order a0 a0 = some .eq) = true := by simpa using c2))
 (try (have c2b2 : (FloatKind.f64.format.order a0 a0 == some .eq) = true := by simpa using c2))
 clear c2
 replace H := Option.bind_eq_some_iff.mp H
 obtain ⟨t443, A40, H⟩ := H
 try dsimp only at H
 have hf5 : ∀ w_ : World, Sem.run Tryz.prog (convert 22 92 (.float .f64 a0)) w_ = .ok (.float .f32 t443) w_ := fun w_ => run_convert_float_float w_ 22 92 .f64 .f32 a0 t443 (by rw [Tryz.underlying22]; rfl) Tryz.underlying92 A40
 clear A40
 replace H := Option.bind_eq_some_iff.mp H
 obtain ⟨t444, A60, H⟩ := H
 try dsimp only at H
 have hf7 : ∀ w_ : World, Sem.run Tryz.prog (convert 92 22 (.float .f32 t443)) w_ = .ok (.float .f64 t444) w_ := fun w_ => run_convert_float_float w_ 92 22 .f32 .f64 t443 t444 (by rw [Tryz.underlying92]; rfl) Tryz.underlying22 A60
 clear A60
 obtain rfl := Option.some.inj H
 go_enter Tryz.func35, Tryz.ntmps35
 go_wp2
 go_ret
 exact ⟨sqE, sqW⟩
def endonymlaw2_told.f (k : Nat)  : Option (Bool) := (weigh_Parse.f k (⟨#[50, 53, 101, 45, 50]⟩ : ByteArray)).bind fun bt445 => ((weigh_Mean.f k (([(4607182418800017408 : Nat), (4611686018427387904 : Nat)] : List Nat))).bind fun bt450 => (if (FloatKind.f64.format.order bt445.1 (4598175219545276416 : Nat) == some .eq) = true then (if bt445.2 = 0 then ((weigh_Print.f k (4636737291354636288 : Nat)).bind fun t452 => (if t452.toList = ([49, 101, 50] : List UInt8) then ((weigh_Order.f (4607182418800017408 : Nat) (4611686018427387904 : Nat)).bind fun t453 => (if t453 = (-1) then ((weigh_Exact.f k (([(4846369599423283200 : Nat), (4607182418800017408 : Nat), (14069741636278059008 : Nat)] : List Nat))).bind fun t457 => (if (FloatKind.f64.format.order t457 (4607182418800017408 : Nat) == some .eq) = true then ((weigh_Sum.f k (([(4607182418800017408 : Nat), (4611686018427387904 : Nat)] : List Nat))).bind fun t461 => (if (FloatKind.f64.format.order t461 (4613937818241073152 : Nat) == some .eq) = true then ((weigh_Pairs.f k (([(4607182418800017408 : Nat), (4611686018427387904 : Nat), (4616189618054758400 : Nat)] : List Nat))).bind fun t465 => (if (FloatKind.f64.format.order t465 (4619567317775286272 : Nat) == some .eq) = true then ((weigh_Narrow.f (4715268810125344768 : Nat)).bind fun t466 => (if (FloatKind.f64.format.order t466 (4715268809856909312 : Nat) == some .eq) = true then (if bt450.2 = true then (some (FloatKind.f64.format.order bt450.1 (4609434218613702656 : Nat) == some .eq)) else (some false)) else (some false))) else (some false))) else (some false))) else (some false))) else (some false))) else (some false))) else (some false)) else (some false)))
theorem endonymlaw2_told.mono : ∀ k, LeO (endonymlaw2_told.f k ) (endonymlaw2_told.f (k + 1) ) := by
 intro  k
 unfold endonymlaw2_told.f
 repeat' first | (with_reducible first | apply weigh_Exact.mono | apply weigh_Mean.mono | apply weigh_Pairs.mono | apply weigh_Parse.mono | apply weigh_Print.mono | apply weigh_Sum.mono | apply LeO.refl | apply LeO.none | refine LeO.ite ?_ ?_ | refine LeO.bind ?_ (fun _ => ?_)) | apply LeO.none | refine LeO.ite ?_ ?_ | refine LeO.bind ?_ (fun _ => ?_)
set_option maxRecDepth 100000 in
theorem endonymlaw2_told.at100 : endonymlaw2_told.f 100 = some true := by decide +kernel
theorem endonymlaw2_told.calls (k : Nat)  (r : Bool) (w : World) (htab : Aside0 (Rm.Tab w)) (h : endonymlaw2_told.f k  = some r) :
  Calls Tryz.prog 9 #[] w fun e w' => e = .returned (.bool r) ∧ Below w.heap.size w w' := by
 have HB := Aside0.mk (Below.refl w.heap.size w)
 have H : ((weigh_Parse.f k (⟨#[50, 53, 101, 45, 50]⟩ : ByteArray)).bind fun bt445 => ((weigh_Mean.f k (([(4607182418800017408 : Nat), (4611686018427387904 : Nat)] : List Nat))).bind fun bt450 => (if (FloatKind.f64.format.order bt445.1 (4598175219545276416 : Nat) == some .eq) = true then (if bt445.2 = 0 then ((weigh_Print.f k (4636737291354636288 : Nat)).bind fun t452 => (if t452.toList = ([49, 101, 50] : List UInt8) then ((weigh_Order.f (4607182418800017408 : Nat) (4611686018427387904 : Nat)).bind fun t453 => (if t453 = (-1) then ((weigh_Exact.f k (([(4846369599423283200 : Nat), (4607182418800017408 : Nat), (14069741636278059008 : Nat)] : List Nat))).bind fun t457 => (if (FloatKind.f64.format.order t457 (4607182418800017408 : Nat) == some .eq) = true then ((weigh_Sum.f k (([(4607182418800017408 : Nat), (4611686018427387904 : Nat)] : List Nat))).bind fun t461 => (if (FloatKind.f64.format.order t461 (4613937818241073152 : Nat) == some .eq) = true then ((weigh_Pairs.f k (([(4607182418800017408 : Nat), (4611686018427387904 : Nat), (4616189618054758400 : Nat)] : List Nat))).bind fun t465 => (if (FloatKind.f64.format.order t465 (4619567317775286272 : Nat) == some .eq) = true then ((weigh_Narrow.f (4715268810125344768 : Nat)).bind fun t466 => (if (FloatKind.f64.format.order t466 (4715268809856909312 : Nat) == some .eq) = true then (if bt450.2 = true then (some (FloatKind.f64.format.order bt450.1 (4609434218613702656 : Nat) == some .eq)) else (some false)) else (some false))) else (some false))) else (some false))) else (some false))) else (some false))) else (some false))) else (some false)) else (some false)))) = some r := h
 have hr : r = true := Option.some.inj ((at_rounds (g := fun k => endonymlaw2_told.f k) endonymlaw2_told.mono (Nat.le_max_left k 100) h).symm.trans (at_rounds (g := fun k => endonymlaw2_told.f k) endonymlaw2_told.mono (Nat.le_max_right k 100) endonymlaw2_told.at100))
 clear h
 obtain ⟨⟨t445, t446⟩, A1, H⟩ := sqO H
 try dsimp only at H
 obtain ⟨y447, hy447⟩ : ∃ y_ : List Nat, y_ = (([(4607182418800017408 : Nat), (4611686018427387904 : Nat)] : List Nat)) := ⟨_, rfl⟩
 replace H : ((weigh_Mean.f k y447).bind fun bt450 => (if (FloatKind.f64.format.order t445 (4598175219545276416 : Nat) == some .eq) = true then (if t446 = 0 then ((weigh_Print.f k (4636737291354636288 : Nat)).bind fun t452 => (if t452.toList = ([49, 101, 50] : List UInt8) then ((weigh_Order.f (4607182418800017408 : Nat) (4611686018427387904 : Nat)).bind fun t453 => (if t453 = (-1) then ((weigh_Exact.f k (([(4846369599423283200 : Nat), (4607182418800017408 : Nat), (14069741636278059008 : Nat)] : List Nat))).bind fun t457 => (if (FloatKind.f64.format.order t457 (4607182418800017408 : Nat) == some .eq) = true then ((weigh_Sum.f k (([(4607182418800017408 : Nat), (4611686018427387904 : Nat)] : List Nat))).bind fun t461 => (if (FloatKind.f64.format.order t461 (4613937818241073152 : Nat) == some .eq) = true then ((weigh_Pairs.f k (([(4607182418800017408 : Nat), (4611686018427387904 : Nat), (4616189618054758400 : Nat)] : List Nat))).bind fun t465 => (if (FloatKind.f64.format.order t465 (4619567317775286272 : Nat) == some .eq) = true then ((weigh_Narrow.f (4715268810125344768 : Nat)).bind fun t466 => (if (FloatKind.f64.format.order t466 (4715268809856909312 : Nat) == some .eq) = true then (if bt450.2 = true then (some (FloatKind.f64.format.order bt450.1 (4609434218613702656 : Nat) == some .eq)) else (some false)) else (some false))) else (some false))) else (some false))) else (some false))) else (some false))) else (some false))) else (some false)) else (some false))) = some r := by first | (rw [hy447]; with_reducible exact H) | (have H2_ := (Option.bind_some _ _).symm.trans H; rw [hy447]; with_reducible exact H2_) | (have H2_ := (Option.bind_some _ _).symm.trans H; with_reducible exact H2_) | with_reducible exact H | (rw [hy447]; exact H) | exact H
 have Ny447 := Aside0.mk hy447
 clear hy447
 obtain ⟨⟨t450, t451⟩, A2, H⟩ := sqO H
 try dsimp only at H
 by_cases c3 : (FloatKind.f64.format.order t445 (4598175219545276416 : Nat) == some .eq) = true
 case neg => rw [if_neg c3, hr] at H; exact absurd H (by simp)
 rw [if_pos c3] at H
 have c3b0 : (FloatKind.f64.format.order t445 (4598175219545276416 : Nat) == some .eq) = true := c3
 (try (have c3b1 : decide (FloatKind.f64.format.order t445 (4598175219545276416 : Nat) = some .eq) = true := by simpa using c3))
 (try (have c3b2 : (FloatKind.f64.format.order t445 (4598175219545276416 : Nat) == some .eq) = true := by simpa using c3))
 clear c3
 by_cases c4 : t446 = 0
 case neg => rw [if_neg c4, hr] at H; exact absurd H (by simp)
 rw [if_pos c4] at H
 have c4b0 := beq_iff_eq.mpr c4
 have c4b1 := bne_eq_false_iff_eq.mpr c4
 clear c4
 obtain ⟨t452, A5, H⟩ := sqO H
 try dsimp only at H
 by_cases c6 : t452.toList = ([49, 101, 50] : List UInt8)
 case neg => rw [if_neg c6, hr] at H; exact absurd H (by simp)
 rw [if_pos c6] at H
 have c6b0 := beq_iff_eq.mpr c6
 have c6b1 := bne_eq_false_iff_eq.mpr c6
 clear c6
 obtain ⟨t453, A7, H⟩ := sqO H
 try dsimp only at H
 by_cases c8 : t453 = (-1)
 case neg => rw [if_neg c8, hr] at H; exact absurd H (by simp)
 rw [if_pos c8] at H
 have c8b0 := beq_iff_eq.mpr c8
 have c8b1 := bne_eq_false_iff_eq.mpr c8
 clear c8
 obtain ⟨y454, hy454⟩ : ∃ y_ : List Nat, y_ = (([(4846369599423283200 : Nat), (4607182418800017408 : Nat), (14069741636278059008 : Nat)] : List Nat)) := ⟨_, rfl⟩
 replace H : ((weigh_Exact.f k y454).bind fun t457 => (if (FloatKind.f64.format.order t457 (4607182418800017408 : Nat) == some .eq) = true then ((weigh_Sum.f k (([(4607182418800017408 : Nat), (4611686018427387904 : Nat)] : List Nat))).bind fun t461 => (if (FloatKind.f64.format.order t461 (4613937818241073152 : Nat) == some .eq) = true then ((weigh_Pairs.f k (([(4607182418800017408 : Nat), (4611686018427387904 : Nat), (4616189618054758400 : Nat)] : List Nat))).bind fun t465 => (if (FloatKind.f64.format.order t465 (4619567317775286272 : Nat) == some .eq) = true then ((weigh_Narrow.f (4715268810125344768 : Nat)).bind fun t466 => (if (FloatKind.f64.format.order t466 (4715268809856909312 : Nat) == some .eq) = true then (if t451 = true then (some (FloatKind.f64.format.order t450 (4609434218613702656 : Nat) == some .eq)) else (some false)) else (some false))) else (some false))) else (some false))) else (some false))) = some r := by first | (rw [hy454]; with_reducible exact H) | (have H2_ := (Option.bind_some _ _).symm.trans H; rw [hy454]; with_reducible exact H2_) | (have H2_ := (Option.bind_some _ _).symm.trans H; with_reducible exact H2_) | with_reducible exact H | (rw [hy454]; exact H) | exact H
 have Ny454 := Aside0.mk hy454
 clear hy454
 obtain ⟨t457, A9, H⟩ := sqO H
 try dsimp only at H
 by_cases c10 : (FloatKind.f64.format.order t457 (4607182418800017408 : Nat) == some .eq) = true
 case neg => rw [if_neg c10, hr] at H; exact absurd H (by simp)
 rw [if_pos c10] at H
 have c10b0 : (FloatKind.f64.format.order t457 (4607182418800017408 : Nat) == some .eq) = true := c10
 (try (have c10b1 : decide (FloatKind.f64.format.order t457 (4607182418800017408 : Nat) = some .eq) = true := by simpa using c10))
 (try (have c10b2 : (FloatKind.f64.format.order t457 (4607182418800017408 : Nat) == some .eq) = true := by simpa using c10))
 clear c10
 obtain ⟨y458, hy458⟩ : ∃ y_ : List Nat, y_ = (([(4607182418800017408 : Nat), (4611686018427387904 : Nat)] : List Nat)) := ⟨_, rfl⟩
 replace H : ((weigh_Sum.f k y458).bind fun t461 => (if (FloatKind.f64.format.order t461 (4613937818241073152 : Nat) == some .eq) = true then ((weigh_Pairs.f k (([(4607182418800017408 : Nat), (4611686018427387904 : Nat), (4616189618054758400 : Nat)] : List Nat))).bind fun t465 => (if (FloatKind.f64.format.order t465 (4619567317775286272 : Nat) == some .eq) = true then ((weigh_Narrow.f (4715268810125344768 : Nat)).bind fun t466 => (if (FloatKind.f64.format.order t466 (4715268809856909312 : Nat) == some .eq) = true then (if t451 = true then (some (FloatKind.f64.format.order t450 (4609434218613702656 : Nat) == some .eq)) else (some false)) else (some false))) else (some false))) else (some false))) = some r := by first | (rw [hy458]; with_reducible exact H) | (have H2_ := (Option.bind_some _ _).symm.trans H; rw [hy458]; with_reducible exact H2_) | (have H2_ := (Option.bind_some _ _).symm.trans H; with_reducible exact H2_) | with_reducible exact H | (rw [hy458]; exact H) | exact H
 have Ny458 := Aside0.mk hy458
 clear hy458
 obtain ⟨t461, A11, H⟩ := sqO H
 try dsimp only at H
 by_cases c12 : (FloatKind.f64.format.order t461 (4613937818241073152 : Nat) == some .eq) = true
 case neg => rw [if_neg c12, hr] at H; exact absurd H (by simp)
 rw [if_pos c12] at H
 have c12b0 : (FloatKind.f64.format.order t461 (4613937818241073152 : Nat) == some .eq) = true := c12
 (try (have c12b1 : decide (FloatKind.f64.format.order t461 (4613937818241073152 : Nat) = some .eq) = true := by simpa using c12))
 (try (have c12b2 : (FloatKind.f64.format.order t461 (4613937818241073152 : Nat) == some .eq) = true := by simpa using c12))
 clear c12
 obtain ⟨y462, hy462⟩ : ∃ y_ : List Nat, y_ = (([(4607182418800017408 : Nat), (4611686018427387904 : Nat), (4616189618054758400 : Nat)] : List Nat)) := ⟨_, rfl⟩
 replace H : ((weigh_Pairs.f k y462).bind fun t465 => (if (FloatKind.f64.format.order t465 (4619567317775286272 : Nat) == some .eq) = true then ((weigh_Narrow.f (4715268810125344768 : Nat)).bind fun t466 => (if (FloatKind.f64.format.order t466 (4715268809856909312 : Nat) == some .eq) = true then (if t451 = true then (some (FloatKind.f64.format.order t450 (4609434218613702656 : Nat) == some .eq)) else (some false)) else (some false))) else (some false))) = some r := by first | (rw [hy462]; with_reducible exact H) | (have H2_ := (Option.bind_some _ _).symm.trans H; rw [hy462]; with_reducible exact H2_) | (have H2_ := (Option.bind_some _ _).symm.trans H; with_reducible exact H2_) | with_reducible exact H | (rw [hy462]; exact H) | exact H
 have Ny462 := Aside0.mk hy462
 clear hy462
 obtain ⟨t465, A13, H⟩ := sqO H
 try dsimp only at H
 by_cases c14 : (FloatKind.f64.format.order t465 (4619567317775286272 : Nat) == some .eq) = true
 case neg => rw [if_neg c14, hr] at H; exact absurd H (by simp)
 rw [if_pos c14] at H
 have c14b0 : (FloatKind.f64.format.order t465 (4619567317775286272 : Nat) == some .eq) = true := c14
 (try (have c14b1 : decide (FloatKind.f64.format.order t465 (4619567317775286272 : Nat) = some .eq) = true := by simpa using c14))
 (try (have c14b2 : (FloatKind.f64.format.order t465 (4619567317775286272 : Nat) == some .eq) = true := by simpa using c14))
 clear c14
 obtain ⟨t466, A15, H⟩ := sqO H
 try dsimp only at H
 by_cases c16 : (FloatKind.f64.format.order t466 (4715268809856909312 : Nat) == some .eq) = true
 case neg => rw [if_neg c16, hr] at H; exact absurd H (by simp)
 rw [if_pos c16] at H
 have c16b0 : (FloatKind.f64.format.order t466 (4715268809856909312 : Nat) == some .eq) = true := c16
 (try (have c16b1 : decide (FloatKind.f64.format.order t466 (4715268809856909312 : Nat) = some .eq) = true := by simpa using c16))
 (try (have c16b2 : (FloatKind.f64.format.order t466 (4715268809856909312 : Nat) == some .eq) = true := by simpa using c16))
 clear c16
 by_cases c17 : t451 = true
 case neg => rw [if_neg c17, hr] at H; exact absurd H (by simp)
 subst c17
 have H1 : (some (FloatKind.f64.format.order t450 (4609434218613702656 : Nat) == some .eq)) = some r := by rw [if_pos rfl] at H; exact H
 clear H
 have H := H1
 clear H1
 obtain rfl := Option.some.inj H
 go_enter Tryz.func9, Tryz.ntmps9
 go_wp2_with (first | ((with_reducible refine gate_callee (f := 7) rfl ?_); refine goesL_ (some 6) rfl rfl Tryz.func7 (by kernel_rfl) rfl #[.string (⟨#[50, 53, 101, 45, 50]⟩ : ByteArray)] rfl sqA ?_; (with_reducible refine (weigh_Parse.calls k (⟨#[50, 53, 101, 45, 50]⟩ : ByteArray) t445 t446 _ A1.out).mono ?_); rintro e w18 ⟨rfl, hb⟩; refine ⟨_, rfl, ?_⟩; have n0_ := Aside0.mk (below_step sqB hb); clear HB; have HB := n0_; clear n0_; (try clear hb); (try clear hb2); (try clear hk); (try clear hi)) | ((with_reducible refine gate_dst (N := 10) rfl ?_); (try (refine gate_guard (by rfl) ?_; dsimp only)); refine Kd.R_lit Kd.flt _ 22 ?hg (N := 10) ?hd (xs := ([(4607182418800017408 : Nat), (4611686018427387904 : Nat)] : List Nat)) (inner := [.float .f64 (4607182418800017408 : Nat), .float .f64 (4611686018427387904 : Nat)]) (ok := fun _ => True) (okp := fun _ => True) ?hr ?hp (fun _ hk => hk) trivial (Below.refl _ _) (Nat.le_refl _) (by simp) ?_; (case hd => rfl); (case hg => rfl); (case hr => first | (go_simp; done) | (go_simp; rfl)); (case hp => exact (Reps.one (show Kd.M Kd.flt _ _ _ (4607182418800017408 : Nat) [.float .f64 (4607182418800017408 : Nat)] from rfl) (Reps.one (show Kd.M Kd.flt _ _ _ (4611686018427387904 : Nat) [.float .f64 (4611686018427387904 : Nat)] from rfl) (Reps.none _ _)))); intro v448 w19 ho20 hb hg_ hnew_; clear hg_ hnew_; (first | rw [← Ny447.out] at ho20 | (simp only [Int.reduceToNat] at ho20; rw [← Ny447.out] at ho20)); have n0_ := Aside0.mk (Kd.R_lower ho20 (below_size sqB)); have n1_ := Aside0.mk (below_step sqB hb); clear HB; have HO449 := n0_; have HB := n1_; clear n0_ n1_; clear hb ho20; obtain ⟨Ao21, co21, eo21⟩ := Kd.R_slice HO449.out; subst eo21) | ((with_reducible refine gate_callee (f := 22) rfl ?_); refine goesL_ (some 11) rfl rfl Tryz.func22 (by kernel_rfl) rfl #[.slice Ao21 y447.length co21] rfl sqA ?_; (with_reducible refine (weigh_Mean.calls k _ _ y447 t450 true _ ?side1 ?side2 A2.out).mono ?_); (case side1 => repeat (first | exact (Kd.R_reads' HO449.out).2.2 | (with_reducible refine Kd.C_alloc ?_ _) | (with_reducible refine Kd.C_drewN ?_ _) | (with_reducible refine Kd.C_drew ?_))); (case side2 => exact (Kd.R_reads' HO449.out).2.1); rintro e w22 ⟨rfl, hb⟩; refine ⟨_, rfl, ?_⟩; have n0_ := Aside0.mk (Kd.R_below (sqR HO449.out) hb); have n1_ := Aside0.mk (below_step sqB hb); clear HO449; clear HB; have HO449 := n0_; have HB := n1_; clear n0_ n1_; (try clear hb); (try clear hb2); (try clear hk); (try clear hi)) | (go_at_call 11; (with_reducible refine (weigh_Print.calls k (4636737291354636288 : Nat) t452 _ ⟨htab.out.below sqB⟩ A5.out).mono ?_); rintro e w23 ⟨rfl, hb⟩; have n0_ := Aside0.mk (Kd.R_below (sqR HO449.out) hb); have n1_ := Aside0.mk (below_step sqB hb); clear HO449; clear HB; have HO449 := n0_; have HB := n1_; clear n0_ n1_; (try clear hb); (try clear hb2); (try clear hk); (try clear hi)) | (go_at_call 34; (with_reducible refine (weigh_Order.calls (4607182418800017408 : Nat) (4611686018427387904 : Nat) t453 _ A7.out).mono ?_); rintro e w' ⟨rfl, ⟨nd, rfl⟩⟩) | ((with_reducible refine gate_dst (N := 29) rfl ?_); (try (refine gate_guard (by rfl) ?_; dsimp only)); refine Kd.R_lit Kd.flt _ 22 ?hg (N := 29) ?hd (xs := ([(4846369599423283200 : Nat), (4607182418800017408 : Nat), (14069741636278059008 : Nat)] : List Nat)) (inner := [.float .f64 (4846369599423283200 : Nat), .float .f64 (4607182418800017408 : Nat), .float .f64 (14069741636278059008 : Nat)]) (ok := fun _ => True) (okp := fun _ => True) ?hr ?hp (fun _ hk => hk) trivial (Below.refl _ _) (Nat.le_refl _) (by simp) ?_; (case hd => rfl); (case hg => rfl); (case hr => first | (go_simp; done) | (go_simp; rfl)); (case hp => exact (Reps.one (show Kd.M Kd.flt _ _ _ (4846369599423283200 : Nat) [.float .f64 (4846369599423283200 : Nat)] from rfl) (Reps.one (show Kd.M Kd.flt _ _ _ (4607182418800017408 : Nat) [.float .f64 (4607182418800017408 : Nat)] from rfl) (Reps.one (show Kd.M Kd.flt _ _ _ (14069741636278059008 : Nat) [.float .f64 (14069741636278059008 : Nat)] from rfl) (Reps.none _ _))))); intro v455 w24 ho25 hb hg_ hnew_; clear hg_ hnew_; (first | rw [← Ny454.out] at ho25 | (simp only [Int.reduceToNat] at ho25; rw [← Ny454.out] at ho25)); have n0_ := Aside0.mk (Kd.R_elder' (sqR HO449.out) (Kd.R_base ho25) hb); have n1_ := Aside0.mk (Kd.R_lower (Kd.R_new' ho25 (Kd.R_lt (sqR HO449.out))) (below_size sqB)); have n2_ := Aside0.mk (below_step sqB hb); clear HO449; clear HB; have HO449 := n0_; have HO456 := n1_; have HB := n2_; clear n0_ n1_ n2_; clear hb ho25; obtain ⟨Ao26, co26, eo26⟩ := Kd.R_slice HO456.out; subst eo26) | (go_at_call 17; (with_reducible refine (weigh_Exact.calls k _ _ y454 t457 _ ?side1 ?side2 A9.out).mono ?_); (case side1 => repeat (first | exact (Kd.R_reads' HO456.out).2.2 | (with_reducible refine Kd.C_alloc ?_ _) | (with_reducible refine Kd.C_drewN ?_ _) | (with_reducible refine Kd.C_drew ?_))); (case side2 => exact (Kd.R_reads' HO456.out).2.1); rintro e w27 ⟨rfl, hb⟩; have n0_ := Aside0.mk (Kd.R_below (sqR HO449.out) hb); have n1_ := Aside0.mk (Kd.R_below (sqR HO456.out) hb); have n2_ := Aside0.mk (below_step sqB hb); clear HO449; clear HO456; clear HB; have HO449 := n0_; have HO456 := n1_; have HB := n2_; clear n0_ n1_ n2_; (try clear hb); (try clear hb2); (try clear hk); (try clear hi)) | ((with_reducible refine gate_dst (N := 34) rfl ?_); (try (refine gate_guard (by rfl) ?_; dsimp only)); refine Kd.R_lit Kd.flt _ 22 ?hg (N := 34) ?hd (xs := ([(4607182418800017408 : Nat), (4611686018427387904 : Nat)] : List Nat)) (inner := [.float .f64 (4607182418800017408 : Nat), .float .f64 (4611686018427387904 : Nat)]) (ok := fun _ => True) (okp := fun _ => True) ?hr ?hp (fun _ hk => hk) trivial (Below.refl _ _) (Nat.le_refl _) (by simp) ?_; (case hd => rfl); (case hg => rfl); (case hr => first | (go_simp; done) | (go_simp; rfl)); (case hp => exact (Reps.one (show Kd.M Kd.flt _ _ _ (4607182418800017408 : Nat) [.float .f64 (4607182418800017408 : Nat)] from rfl) (Reps.one (show Kd.M Kd.flt _ _ _ (4611686018427387904 : Nat) [.float .f64 (4611686018427387904 : Nat)] from rfl) (Reps.none _ _)))); intro v459 w28 ho29 hb hg_ hnew_; clear hg_ hnew_; (first | rw [← Ny458.out] at ho29 | (simp only [Int.reduceToNat] at ho29; rw [← Ny458.out] at ho29)); have n0_ := Aside0.mk (Kd.R_elder' (sqR HO449.out) (Kd.R_base ho29) hb); have n1_ := Aside0.mk (Kd.R_elder' (sqR HO456.out) (Kd.R_base ho29) hb); have n2_ := Aside0.mk (Kd.R_lower (Kd.R_new' (Kd.R_new' ho29 (Kd.R_lt (sqR HO449.out))) (Kd.R_lt (sqR HO456.out))) (below_size sqB)); have n3_ := Aside0.mk (below_step sqB hb); clear HO449; clear HO456; clear HB; have HO449 := n0_; have HO456 := n1_; have HO460 := n2_; have HB := n3_; clear n0_ n1_ n2_ n3_; clear hb ho29; obtain ⟨Ao30, co30, eo30⟩ := Kd.R_slice HO460.out; subst eo30) | (go_at_call 15; (with_reducible refine (weigh_Sum.calls k _ _ y458 t461 _ ?side1 ?side2 A11.out).mono ?_); (case side1 => repeat (first | exact (Kd.R_reads' HO460.out).2.2 | (with_reducible refine Kd.C_alloc ?_ _) | (with_reducible refine Kd.C_drewN ?_ _) | (with_reducible refine Kd.C_drew ?_))); (case side2 => exact (Kd.R_reads' HO460.out).2.1); rintro e w' ⟨rfl, ⟨nd, rfl⟩⟩) | ((with_reducible refine gate_dst (N := 39) rfl ?_); (try (refine gate_guard (by rfl) ?_; dsimp only)); refine Kd.R_lit Kd.flt _ 22 ?hg (N := 39) ?hd (xs := ([(4607182418800017408 : Nat), (4611686018427387904 : Nat), (4616189618054758400 : Nat)] : List Nat)) (inner := [.float .f64 (4607182418800017408 : Nat), .float .f64 (4611686018427387904 : Nat), .float .f64 (4616189618054758400 : Nat)]) (ok := fun _ => True) (okp := fun _ => True) ?hr ?hp (fun _ hk => hk) trivial (Below.refl _ _) (Nat.le_refl _) (by simp) ?_; (case hd => rfl); (case hg => rfl); (case hr => first | (go_simp; done) | (go_simp; rfl)); (case hp => exact (Reps.one (show Kd.M Kd.flt _ _ _ (4607182418800017408 : Nat) [.float .f64 (4607182418800017408 : Nat)] from rfl) (Reps.one (show Kd.M Kd.flt _ _ _ (4611686018427387904 : Nat) [.float .f64 (4611686018427387904 : Nat)] from rfl) (Reps.one (show Kd.M Kd.flt _ _ _ (4616189618054758400 : Nat) [.float .f64 (4616189618054758400 : Nat)] from rfl) (Reps.none _ _))))); intro v463 w31 ho32 hb hg_ hnew_; clear hg_ hnew_; (first | rw [← Ny462.out] at ho32 | (simp only [Int.reduceToNat] at ho32; rw [← Ny462.out] at ho32)); have n0_ := Aside0.mk (Kd.R_elder' (sqR HO449.out) (Kd.R_base ho32) hb); have n1_ := Aside0.mk (Kd.R_elder' (sqR HO456.out) (Kd.R_base ho32) hb); have n2_ := Aside0.mk (Kd.R_elder' (sqR HO460.out) (Kd.R_base ho32) hb); have n3_ := Aside0.mk (Kd.R_lower (Kd.R_new' (Kd.R_new' (Kd.R_new' ho32 (Kd.R_lt (sqR HO449.out))) (Kd.R_lt (sqR HO456.out))) (Kd.R_lt (sqR HO460.out))) (below_size sqB)); have n4_ := Aside0.mk (below_step sqB hb); clear HO449; clear HO456; clear HO460; clear HB; have HO449 := n0_; have HO456 := n1_; have HO460 := n2_; have HO464 := n3_; have HB := n4_; clear n0_ n1_ n2_ n3_ n4_; clear hb ho32; obtain ⟨Ao33, co33, eo33⟩ := Kd.R_slice HO464.out; subst eo33) | (go_at_call 16; (with_reducible refine (weigh_Pairs.calls k _ _ y462 t465 _ ?side1 ?side2 A13.out).mono ?_); (case side1 => repeat (first | exact (Kd.R_reads' HO464.out).2.2 | (with_reducible refine Kd.C_alloc ?_ _) | (with_reducible refine Kd.C_drewN ?_ _) | (with_reducible refine Kd.C_drew ?_))); (case side2 => exact (Kd.R_reads' HO464.out).2.1); rintro e w34 ⟨rfl, hb⟩; have n0_ := Aside0.mk (Kd.R_below (sqR HO449.out) hb); have n1_ := Aside0.mk (Kd.R_below (sqR HO456.out) hb); have n2_ := Aside0.mk (Kd.R_below (sqR HO460.out) hb); have n3_ := Aside0.mk (Kd.R_below (sqR HO464.out) hb); have n4_ := Aside0.mk (below_step sqB hb); clear HO449; clear HO456; clear HO460; clear HO464; clear HB; have HO449 := n0_; have HO456 := n1_; have HO460 := n2_; have HO464 := n3_; have HB := n4_; clear n0_ n1_ n2_ n3_ n4_; (try clear hb); (try clear hb2); (try clear hk); (try clear hi)) | (go_at_call 35; (with_reducible refine (weigh_Narrow.calls (4715268810125344768 : Nat) t466 _ A15.out).mono ?_); rintro e w' ⟨rfl, ⟨nd, rfl⟩⟩))
 go_ret
 exact ⟨sqE', sqB⟩
end Go.Proofs.YtfmjdoofopamkaaGreatDoor.W
