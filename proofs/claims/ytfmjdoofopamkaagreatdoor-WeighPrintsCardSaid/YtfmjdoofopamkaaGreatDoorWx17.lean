import Derived.Test.YtfmjdoofopamkaaGreatDoorWx0
import Derived.Test.YtfmjdoofopamkaaGreatDoorWx1
import Derived.Test.YtfmjdoofopamkaaGreatDoorWx4
namespace Go.Proofs.YtfmjdoofopamkaaGreatDoor.W
open Go.RowKit Go.Proofs.YtfmjdoofopamkaaGreatDoorW.PrintWords Go.Proofs.YtfmjdoofopamkaaGreatDoorW.PrintLast Go.Proofs.YtfmjdoofopamkaaGreatDoorW.PrintMore
set_option maxHeartbeats 8000000
set_option maxRecDepth 100000
attribute [local go_sem] max2_int min2_int max_two min_two max_three min_three max_four min_four
set_option linter.unusedVariables false
set_option linter.unusedSimpArgs false
def math_Signbit.f (a0 : Nat) : Option (Bool) := some (decide ((wrap64 (((a0 : Nat) : Int))) < 0))
theorem math_Signbit.calls (a0 : Nat) (r : Bool) (w : World) (h : math_Signbit.f a0 = some r) :
  Calls Tryz.prog 37 #[.float .f64 a0] w fun e w' => e = .returned (.bool r) ∧ Drawn0 w w' := by
 have H : (some (decide ((wrap64 (((a0 : Nat) : Int))) < 0))) = some r := h
 clear h
 have hf2 := fun w_ : World => Rm.x_Float64bits a0 w_
 obtain rfl := Option.some.inj H
 go_enter Tryz.func37, Tryz.ntmps37
 go_wp2
 go_ret
 exact ⟨sqE, sqW⟩
-- NOT PRINTED: function 67 (math_archFloor)
-- NOT PRINTED: function 111 (math_archTrunc)
def math_Floor.f (a0 : Nat) : Option (Nat) := (Rm.archFloorP a0).bind fun t447 => (some t447)
theorem math_Floor.calls (a0 : Nat) (r : Nat) (w : World) (h : math_Floor.f a0 = some r) :
  Calls Tryz.prog 38 #[.float .f64 a0] w fun e w' => e = .returned (.float .f64 r) ∧ Drawn0 w w' := by
 have H : ((Rm.archFloorP a0).bind fun t447 => (some t447)) = some r := h
 clear h
 replace H := Option.bind_eq_some_iff.mp H
 obtain ⟨t447, A20, H⟩ := H
 try dsimp only at H
 have hf3 := fun w_ : World => Rm.x_archFloor a0 t447 A20 w_
 clear A20
 obtain rfl := Option.some.inj H
 go_enter Tryz.func38, Tryz.ntmps38
 go_wp2
 go_ret
 exact ⟨sqE, sqW⟩
-- NOT PRINTED: function 69 (math_archLog10)
-- NOT PRINTED: function 106 (math_archLog)
-- NOT PRINTED: function 119 (math_archFrexp)
def math_frexp.j0 : Nat → Nat → Bool → Option (Nat × Int)
 | 0, _, _ => none
 | k + 1, x0, x9 => if x9 = true then (some (x0, 0)) else ((math_normalize.f x0).bind fun bt450 => (some (((Go.bits .or .u64 (Go.bits .andNot .u64 ((bt450.1 : Nat) : Int) 9218868437227405312) 4602678819172646912) : Int).toNat, wrap64 (bt450.2 + (wrap64 ((wrap64 ((wrap64 (Go.bits .and .u64 (((bt450.1 : Nat) : Int) / 4503599627370496) 2047)) - 1023)) + 1))))))
def math_frexp.f (k : Nat) (a0 : Nat) : Option (Nat × Int) := if (FloatKind.f64.format.order a0 (0 : Nat) == some .eq) = true then (some (a0, 0)) else ((math_IsInf.f a0 0).bind fun t448 => (if t448 = true then (math_frexp.j0 k a0 true) else ((math_IsNaN.f a0).bind fun t449 => (math_frexp.j0 k a0 t449))))
theorem math_frexp.mono_l : ∀ k, (∀ y0 y1, LeO (math_frexp.j0 k y0 y1) (math_frexp.j0 (k + 1) y0 y1))
 | 0 => fun _ _ r h => by simp [math_frexp.j0] at h
 | k + 1 => by
  have ih0 := math_frexp.mono_l k
  intro y0 y1
  unfold math_frexp.j0
  repeat' first | (with_reducible first | apply ih0 | apply LeO.refl | apply LeO.none | refine LeO.ite ?_ ?_ | refine LeO.bind ?_ (fun _ => ?_)) | apply LeO.none | refine LeO.ite ?_ ?_ | refine LeO.bind ?_ (fun _ => ?_)
theorem math_frexp.mono : ∀ a0 k, LeO (math_frexp.f k a0) (math_frexp.f (k + 1) a0) := by
 intro a0 k
 have ih0 := math_frexp.mono_l k
 unfold math_frexp.f
 repeat' first | (with_reducible first | apply ih0 | apply LeO.refl | apply LeO.none | refine LeO.ite ?_ ?_ | refine LeO.bind ?_ (fun _ => ?_)) | apply LeO.none | refine LeO.ite ?_ ?_ | refine LeO.bind ?_ (fun _ => ?_)
theorem math_frexp.calls (k : Nat) (a0 : Nat) (r1 : Nat) (r2 : Int) (w : World) (h : math_frexp.f k a0 = some (r1, r2)) :
  Calls Tryz.prog 120 #[.float .f64 a0] w fun e w' => e = .returned (.tuple #[.float .f64 r1, .int .i64 r2]) ∧ Drawn0 w w' := by
 have H : (if (FloatKind.f64.format.order a0 (0 : Nat) == some .eq) = true then (some (a0, 0)) else ((math_IsInf.f a0 0).bind fun t448 => (if t448 = true then (math_frexp.j0 k a0 true) else ((math_IsNaN.f a0).bind fun t449 => (math_frexp.j0 k a0 t449))))) = some (r1, r2) := h
 clear h
 by_cases c2 : (FloatKind.f64.format.order a0 (0 : Nat) == some .eq) = true
 ·rw [if_pos c2] at H
  have c2b0 : (FloatKind.f64.format.order a0 (0 : Nat) == some .eq) = true := c2
  (try (have c2b1 : decide (FloatKind.f64.format.order a0 (0 : Nat) = some .eq) = true := by simpa using c2))
  (try (have c2b2 : (FloatKind.f64.format.order a0 (0 : Nat) == some .eq) = true := by simpa using c2))
  clear c2
  simp only [Option.some.injEq, Prod.mk.injEq] at H
  obtain ⟨rfl, rfl⟩ := H
  go_enter Tryz.func120, Tryz.ntmps120
  go_wp2
  go_ret2
  exact ⟨sqE, sqW⟩
 rw [if_neg c2] at H
 have c2b0 : (FloatKind.f64.format.order a0 (0 : Nat) == some .eq) = false := by simpa using c2
 (try (have c2b1 : decide (FloatKind.f64.format.order a0 (0 : Nat) = some .eq) = false := by simpa using c2))
 (try (have c2b2 : (FloatKind.f64.format.order a0 (0 : Nat) == some .eq) = false := by simpa using c2))
 (try (have c2b3 : ¬ (FloatKind.f64.format.order a0 (0 : Nat) = some .eq) := by simpa using c2))
 clear c2
 have HC3 := Sd.mk H
 clear H
 go_enter Tryz.func120, Tryz.ntmps120
 go_upto_region 3 with (fail)
 go_cut [9] (fun v9 wc => ∃ (kq : Nat) (x9_2 : Bool), v9 = .bool x9_2 ∧ Sd (math_frexp.j0 kq a0 x9_2 = some (r1, r2)) ∧ Sd (kq ≤ k) ∧ Drawn0 w wc)
 case first =>
  have H := HC3.out
  clear HC3
  obtain ⟨t448, A4, H⟩ := sqO H
  try dsimp only at H
  by_cases c5 : t448 = true
  ·subst c5
   have H1 : (math_frexp.j0 k a0 true) = some (r1, r2) := by rw [if_pos rfl] at H; exact H
   clear H
   have H := H1
   clear H1
   have H' := Sd.mk H
   clear H
   go_wp2_with (first | ((with_reducible refine gcl (f := 30) rfl ?_); refine gL (some 11) rfl rfl Tryz.func30 (by kernel_rfl) rfl #[.float .f64 a0, .int .i64 0] rfl sqA ?_; (with_reducible refine (math_IsInf.calls a0 0 true _ A4.out).mono ?_); rintro e w' ⟨rfl, ⟨nd, rfl⟩⟩; refine ⟨_, rfl, ?_⟩))
   go_meet
   case rel => exact ⟨_, (true), sqE, H', ⟨by first | omega | exact Nat.le_refl _⟩, sqW⟩
  replace c5 := Bool.eq_false_iff.mpr c5
  subst c5
  have H1 : ((math_IsNaN.f a0).bind fun t449 => (math_frexp.j0 k a0 t449)) = some (r1, r2) := by rw [if_neg (show ¬ (false = true) by decide)] at H; exact H
  clear H
  have H := H1
  clear H1
  obtain ⟨t449, A6, H⟩ := sqO H
  try dsimp only at H
  have H' := Sd.mk H
  clear H
  go_wp2_with (first | ((with_reducible refine gcl (f := 30) rfl ?_); refine gL (some 11) rfl rfl Tryz.func30 (by kernel_rfl) rfl #[.float .f64 a0, .int .i64 0] rfl sqA ?_; (with_reducible refine (math_IsInf.calls a0 0 false _ A4.out).mono ?_); rintro e w' ⟨rfl, ⟨nd, rfl⟩⟩; refine ⟨_, rfl, ?_⟩) | (go_at_call 92; (with_reducible refine (math_IsNaN.calls a0 t449 _ A6.out).mono ?_); rintro e w' ⟨rfl, ⟨nd, rfl⟩⟩))
  go_meet
  case rel => exact ⟨_, (t449), sqE, H', ⟨by first | omega | exact Nat.le_refl _⟩, sqW⟩
 case rest =>
  clear HC3
  try clear c1
  try clear c2
  try clear c2b0
  try clear c2b1
  try clear c2b2
  try clear p2
  try clear c3
  try clear c5
  obtain ⟨kq, x9_2, rfl, HA, HJ2, ⟨mc2, rfl⟩⟩ := hcut
  cases kq with
  | zero => exact absurd HA.out (by simp [math_frexp.j0])
  | succ kj2 =>
   have H := HA.out
   clear HA
   simp only [math_frexp.j0] at H
   by_cases c7 : x9_2 = true
   ·subst c7
    have H1 : (some (a0, 0)) = some (r1, r2) := by rw [if_pos rfl] at H; exact H
    clear H
    have H := H1
    clear H1
    simp only [Option.some.injEq, Prod.mk.injEq] at H
    obtain ⟨rfl, rfl⟩ := H
    go_wp2
    go_ret2
    exact ⟨sqE, sqW⟩
   replace c7 := Bool.eq_false_iff.mpr c7
   subst c7
   have H1 : ((math_normalize.f a0).bind fun bt450 => (some (((Go.bits .or .u64 (Go.bits .andNot .u64 ((bt450.1 : Nat) : Int) 9218868437227405312) 4602678819172646912) : Int).toNat, wrap64 (bt450.2 + (wrap64 ((wrap64 ((wrap64 (Go.bits .and .u64 (((bt450.1 : Nat) : Int) / 4503599627370496) 2047)) - 1023)) + 1)))))) = some (r1, r2) := by rw [if_neg (show ¬ (false = true) by decide)] at H; exact H
   clear H
   have H := H1
   clear H1
   obtain ⟨⟨t450, t451⟩, A8, H⟩ := sqO H
   try dsimp only at H
   have hf9 := fun w_ : World => Rm.x_Float64bits t450 w_
   have hf10 := fun w_ : World => Rm.x_Float64frombits (Go.bits .or .u64 (Go.bits .andNot .u64 ((t450 : Nat) : Int) 9218868437227405312) 4602678819172646912) w_
   simp only [Option.some.injEq, Prod.mk.injEq] at H
   obtain ⟨rfl, rfl⟩ := H
   go_wp2_with (first | ((with_reducible refine gcl (f := 103) rfl ?_); refine gL (some 19) rfl rfl Tryz.func103 (by kernel_rfl) rfl #[.float .f64 a0] rfl sqA ?_; (with_reducible refine (math_normalize.calls a0 t450 t451 _ A8.out).mono ?_); rintro e w' ⟨rfl, ⟨nd, rfl⟩⟩; refine ⟨_, rfl, ?_⟩))
   go_ret2
   exact ⟨sqE, sqW⟩
def math_Frexp.f (k : Nat) (a0 : Nat) : Option (Nat × Int) := (math_frexp.f k a0).bind fun bt452 => (some (bt452.1, bt452.2))
theorem math_Frexp.mono : ∀ a0 k, LeO (math_Frexp.f k a0) (math_Frexp.f (k + 1) a0) := by
 intro a0 k
 unfold math_Frexp.f
 repeat' first | (with_reducible first | apply math_frexp.mono | apply LeO.refl | apply LeO.none | refine LeO.ite ?_ ?_ | refine LeO.bind ?_ (fun _ => ?_)) | apply LeO.none | refine LeO.ite ?_ ?_ | refine LeO.bind ?_ (fun _ => ?_)
theorem math_Frexp.calls (k : Nat) (a0 : Nat) (r1 : Nat) (r2 : Int) (w : World) (h : math_Frexp.f k a0 = some (r1, r2)) :
  Calls Tryz.prog 110 #[.float .f64 a0] w fun e w' => e = .returned (.tuple #[.float .f64 r1, .int .i64 r2]) ∧ Drawn0 w w' := by
 have H : ((math_frexp.f k a0).bind fun bt452 => (some (bt452.1, bt452.2))) = some (r1, r2) := h
 clear h
 obtain ⟨⟨t452, t453⟩, A2, H⟩ := sqO H
 try dsimp only at H
 simp only [Option.some.injEq, Prod.mk.injEq] at H
 obtain ⟨rfl, rfl⟩ := H
 go_enter Tryz.func110, Tryz.ntmps110
 go_wp2_with (first | ((with_reducible refine gcl (f := 120) rfl ?_); refine gL (some 9) rfl rfl Tryz.func120 (by kernel_rfl) rfl #[.float .f64 a0] rfl sqA ?_; (with_reducible refine (math_frexp.calls k a0 t452 t453 _ A2.out).mono ?_); rintro e w' ⟨rfl, ⟨nd, rfl⟩⟩; refine ⟨_, rfl, ?_⟩))
 go_ret2
 exact ⟨sqE, sqW⟩
def math_Log.f (a0 : Nat) : Option (Nat) := (Rm.archLogP a0).bind fun t517 => (some t517)
theorem math_Log.calls (a0 : Nat) (r : Nat) (w : World) (h : math_Log.f a0 = some r) :
  Calls Tryz.prog 94 #[.float .f64 a0] w fun e w' => e = .returned (.float .f64 r) ∧ Drawn0 w w' := by
 have H : ((Rm.archLogP a0).bind fun t517 => (some t517)) = some r := h
 clear h
 replace H := Option.bind_eq_some_iff.mp H
 obtain ⟨t517, A20, H⟩ := H
 try dsimp only at H
 have hf3 := fun w_ : World => Rm.x_archLog a0 t517 A20 w_
 clear A20
 obtain rfl := Option.some.inj H
 go_enter Tryz.func94, Tryz.ntmps94
 go_wp2
 go_ret
 exact ⟨sqE, sqW⟩
def math_log10.f (a0 : Nat) : Option (Nat) := (math_Log.f a0).bind fun t518 => ((floatBits .mul .f64 t518 (4601495173785380110 : Nat)).bind fun t519 => (some t519))
theorem math_log10.calls (a0 : Nat) (r : Nat) (w : World) (h : math_log10.f a0 = some r) :
  Calls Tryz.prog 70 #[.float .f64 a0] w fun e w' => e = .returned (.float .f64 r) ∧ Drawn0 w w' := by
 have H : ((math_Log.f a0).bind fun t518 => ((floatBits .mul .f64 t518 (4601495173785380110 : Nat)).bind fun t519 => (some t519))) = some r := h
 clear h
 obtain ⟨t518, A2, H⟩ := sqO H
 try dsimp only at H
 replace H := Option.bind_eq_some_iff.mp H
 obtain ⟨t519, A30, H⟩ := H
 try dsimp only at H
 have hf4 : ∀ w_ : World, Sem.run Tryz.prog (binOp .mul 22 (.float .f64 t518) (.float .f64 (4601495173785380110 : Nat))) w_ = .ok (.float .f64 t519) w_ := fun w_ => run_float_arith w_ .mul 22 .f64 t518 (4601495173785380110 : Nat) t519 A30
 clear A30
 obtain rfl := Option.some.inj H
 go_enter Tryz.func70, Tryz.ntmps70
 go_wp2_with (first | ((with_reducible refine gcl (f := 94) rfl ?_); refine gL (some 4) rfl rfl Tryz.func94 (by kernel_rfl) rfl #[.float .f64 a0] rfl sqA ?_; (with_reducible refine (math_Log.calls a0 t518 _ A2.out).mono ?_); rintro e w' ⟨rfl, ⟨nd, rfl⟩⟩; refine ⟨_, rfl, ?_⟩))
 go_ret
 exact ⟨sqE, sqW⟩
def math_Log10.f (a0 : Nat) : Option (Nat) := (math_log10.f a0).bind fun t520 => (some t520)
theorem math_Log10.calls (a0 : Nat) (r : Nat) (w : World) (h : math_Log10.f a0 = some r) :
  Calls Tryz.prog 39 #[.float .f64 a0] w fun e w' => e = .returned (.float .f64 r) ∧ Drawn0 w w' := by
 have H : ((math_log10.f a0).bind fun t520 => (some t520)) = some r := h
 clear h
 obtain ⟨t520, A2, H⟩ := sqO H
 try dsimp only at H
 obtain rfl := Option.some.inj H
 go_enter Tryz.func39, Tryz.ntmps39
 go_wp2_with (first | ((with_reducible refine gcl (f := 70) rfl ?_); refine gL (some 6) rfl rfl Tryz.func70 (by kernel_rfl) rfl #[.float .f64 a0] rfl sqA ?_; (with_reducible refine (math_log10.calls a0 t520 _ A2.out).mono ?_); rintro e w' ⟨rfl, ⟨nd, rfl⟩⟩; refine ⟨_, rfl, ?_⟩))
 go_ret
 exact ⟨sqE, sqW⟩
def w2_parts.f (k : Nat) (a0 : Nat) : Option (Int × Int) := (math_Abs.f a0).bind fun t521 => ((math_Frexp.f k t521).bind fun bt522 => ((math_Ldexp.f bt522.1 53).bind fun t524 => ((floatToIntVal .f64 t524 .u64).bind fun t525 => (some (t525, wrap64 (bt522.2 - 53))))))
theorem w2_parts.mono : ∀ a0 k, LeO (w2_parts.f k a0) (w2_parts.f (k + 1) a0) := by
 intro a0 k
 unfold w2_parts.f
 repeat' first | (with_reducible first | apply math_Frexp.mono | apply LeO.refl | apply LeO.none | refine LeO.ite ?_ ?_ | refine LeO.bind ?_ (fun _ => ?_)) | apply LeO.none | refine LeO.ite ?_ ?_ | refine LeO.bind ?_ (fun _ => ?_)
theorem w2_parts.calls (k : Nat) (a0 : Nat) (r1 : Int) (r2 : Int) (w : World) (h : w2_parts.f k a0 = some (r1, r2)) :
  Calls Tryz.prog 101 #[.float .f64 a0] w fun e w' => e = .returned (.tuple #[.int .u64 r1, .int .i64 r2]) ∧ Drawn0 w w' := by
 have H : ((math_Abs.f a0).bind fun t521 => ((math_Frexp.f k t521).bind fun bt522 => ((math_Ldexp.f bt522.1 53).bind fun t524 => ((floatToIntVal .f64 t524 .u64).bind fun t525 => (some (t525, wrap64 (bt522.2 - 53))))))) = some (r1, r2) := h
 clear h
 obtain ⟨t521, A2, H⟩ := sqO H
 try dsimp only at H
 obtain ⟨⟨t522, t523⟩, A3, H⟩ := sqO H
 try dsimp only at H
 obtain ⟨t524, A4, H⟩ := sqO H
 try dsimp only at H
 replace H := Option.bind_eq_some_iff.mp H
 obtain ⟨t525, A50, H⟩ := H
 try dsimp only at H
 have hf6 : ∀ w_ : World, Sem.run Tryz.prog (convert 22 26 (.float .f64 t524)) w_ = .ok (.int .u64 t525) w_ := fun w_ => run_convert_float_int w_ 22 26 .f64 .u64 t524 t525 (by rw [Tryz.underlying22]; rfl) Tryz.underlying26 A50
 clear A50
 simp only [Option.some.injEq, Prod.mk.injEq] at H
 obtain ⟨rfl, rfl⟩ := H
 go_enter Tryz.func101, Tryz.ntmps101
 go_wp2_with (first | ((with_reducible refine gcl (f := 59) rfl ?_); refine gL (some 7) rfl rfl Tryz.func59 (by kernel_rfl) rfl #[.float .f64 a0] rfl sqA ?_; (with_reducible refine (math_Abs.calls a0 t521 _ A2.out).mono ?_); rintro e w' ⟨rfl, ⟨nd, rfl⟩⟩; refine ⟨_, rfl, ?_⟩) | ((with_reducible refine gcl (f := 110) rfl ?_); refine gL (some 8) rfl rfl Tryz.func110 (by kernel_rfl) rfl #[.float .f64 t521] rfl sqA ?_; (with_reducible refine (math_Frexp.calls k t521 t522 t523 _ A3.out).mono ?_); rintro e w' ⟨rfl, ⟨nd, rfl⟩⟩; refine ⟨_, rfl, ?_⟩) | ((with_reducible refine gcl (f := 56) rfl ?_); refine gL (some 12) rfl rfl Tryz.func56 (by kernel_rfl) rfl #[.float .f64 t522, .int .i64 53] rfl sqA ?_; (with_reducible refine (math_Ldexp.calls t522 53 t524 _ A4.out).mono ?_); rintro e w' ⟨rfl, ⟨nd, rfl⟩⟩; refine ⟨_, rfl, ?_⟩))
 go_ret2
 exact ⟨sqE, sqW⟩
end Go.Proofs.YtfmjdoofopamkaaGreatDoor.W
