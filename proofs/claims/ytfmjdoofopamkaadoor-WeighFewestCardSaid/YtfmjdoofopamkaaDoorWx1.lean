-- written by wip/pp.py of this session (the kit's print with patches); checked by Lean alone
import Derived.Test.YtfmjdoofopamkaaDoorWx0
namespace Go.Proofs.YtfmjdoofopamkaaDoor.W
open Go.RowKit Go.Proofs.YtfmjdoofopamkaaDoorW.PrintWords Go.Proofs.YtfmjdoofopamkaaDoorW.PrintLast Go.Proofs.YtfmjdoofopamkaaDoorW.PrintMore
attribute [local go_sem] max2_int min2_int max_two min_two max_three min_three max_four min_four   -- for this text's walks alone
set_option linter.unusedVariables false
set_option linter.unusedSimpArgs false

-- NOT PRINTED: function 25 (math_Float64frombits)

/-! ### api_Float: function 11 -/
def api_Float.f (a0 : Int) : Option (Nat) := some ((a0 : Int).toNat)
set_option maxHeartbeats 8000000 in
set_option maxRecDepth 100000 in
theorem api_Float.calls (a0 : Int) (r : Nat) (w : World) (h : api_Float.f a0 = some r) :
  Calls Tryd.prog 11 #[.int .u64 a0] w fun e w' => e = .returned (.float .f64 r) ∧ Drawn0 w w' := by
 have H : (some ((a0 : Int).toNat)) = some r := h
 clear h
 have hf2 := fun w_ : World => Rm.x_Float64frombits a0 w_
 obtain rfl := Option.some.inj H
 go_enter Tryd.func11, Tryd.ntmps11
 go_wp2
 go_ret
 exact ⟨sqE, sqW⟩

/-! ### weigh_Narrow: function 10 -/
def weigh_Narrow.f (a0 : Nat) : Option (Nat) := if (FloatKind.f64.format.order a0 a0 != some .eq) = true then ((api_Float.f 9221120237041090560).bind fun t101 => (some t101)) else ((floatToFloatBits .f64 a0 .f32).bind fun t102 => ((floatToFloatBits .f32 t102 .f64).bind fun t103 => (some t103)))
set_option maxHeartbeats 8000000 in
set_option maxRecDepth 100000 in
theorem weigh_Narrow.calls (a0 : Nat) (r : Nat) (w : World) (h : weigh_Narrow.f a0 = some r) :
  Calls Tryd.prog 10 #[.float .f64 a0] w fun e w' => e = .returned (.float .f64 r) ∧ Drawn0 w w' := by
 have H : (if (FloatKind.f64.format.order a0 a0 != some .eq) = true then ((api_Float.f 9221120237041090560).bind fun t101 => (some t101)) else ((floatToFloatBits .f64 a0 .f32).bind fun t102 => ((floatToFloatBits .f32 t102 .f64).bind fun t103 => (some t103)))) = some r := h
 clear h
 by_cases c2 : (FloatKind.f64.format.order a0 a0 != some .eq) = true
 ·rw [if_pos c2] at H
  have c2b0 : (FloatKind.f64.format.order a0 a0 != some .eq) = true := c2
  (try (have c2b1 : decide (FloatKind.f64.format.order a0 a0 = some .eq) = false := by simpa using c2))
  (try (have c2b2 : (FloatKind.f64.format.order a0 a0 == some .eq) = false := by simpa using c2))
  (try (have c2b3 : ¬ (FloatKind.f64.format.order a0 a0 = some .eq) := by simpa using c2))
  clear c2
  replace H := Option.bind_eq_some_iff.mp H
  obtain ⟨t101, A30, H⟩ := H
  try dsimp only at H
  have A3 := Aside0.mk A30
  clear A30
  obtain rfl := Option.some.inj H
  go_enter Tryd.func10, Tryd.ntmps10
  go_wp2_with (first | ((with_reducible refine gate_callee (f := 11) rfl ?_); refine goesL_ (some 6) rfl rfl Tryd.func11 (by kernel_rfl) rfl #[.int .u64 9221120237041090560] rfl sqA ?_; (with_reducible refine (api_Float.calls 9221120237041090560 t101 _ A3.out).mono ?_); rintro e w' ⟨rfl, ⟨nd, rfl⟩⟩; refine ⟨_, rfl, ?_⟩))
  go_ret
  exact ⟨sqE, sqW⟩
 rw [if_neg c2] at H
 have c2b0 : (FloatKind.f64.format.order a0 a0 != some .eq) = false := by simpa using c2
 (try (have c2b1 : decide (FloatKind.f64.format.order a0 a0 = some .eq) = true := by simpa using c2))
 (try (have c2b2 : (FloatKind.f64.format.order a0 a0 == some .eq) = true := by simpa using c2))
 clear c2
 replace H := Option.bind_eq_some_iff.mp H
 obtain ⟨t102, A40, H⟩ := H
 try dsimp only at H
 have hf5 : ∀ w_ : World, Sem.run Tryd.prog (convert 23 51 (.float .f64 a0)) w_ = .ok (.float .f32 t102) w_ := fun w_ => run_convert_float_float w_ 23 51 .f64 .f32 a0 t102 (by rw [Tryd.underlying23]; rfl) Tryd.underlying51 A40
 clear A40
 replace H := Option.bind_eq_some_iff.mp H
 obtain ⟨t103, A60, H⟩ := H
 try dsimp only at H
 have hf7 : ∀ w_ : World, Sem.run Tryd.prog (convert 51 23 (.float .f32 t102)) w_ = .ok (.float .f64 t103) w_ := fun w_ => run_convert_float_float w_ 51 23 .f32 .f64 t102 t103 (by rw [Tryd.underlying51]; rfl) Tryd.underlying23 A60
 clear A60
 obtain rfl := Option.some.inj H
 go_enter Tryd.func10, Tryd.ntmps10
 go_wp2
 go_ret
 exact ⟨sqE, sqW⟩

-- NOT PRINTED: function 34 (math_Float64bits)

/-! ### api_Bits: function 16 -/
def api_Bits.f (a0 : Nat) : Option (Int) := some ((a0 : Nat) : Int)
set_option maxHeartbeats 8000000 in
set_option maxRecDepth 100000 in
theorem api_Bits.calls (a0 : Nat) (r : Int) (w : World) (h : api_Bits.f a0 = some r) :
  Calls Tryd.prog 16 #[.float .f64 a0] w fun e w' => e = .returned (.int .u64 r) ∧ Drawn0 w w' := by
 have H : (some ((a0 : Nat) : Int)) = some r := h
 clear h
 have hf2 := fun w_ : World => Rm.x_Float64bits a0 w_
 obtain rfl := Option.some.inj H
 go_enter Tryd.func16, Tryd.ntmps16
 go_wp2
 go_ret
 exact ⟨sqE, sqW⟩

/-! ### weigh_rank: function 33 -/
def weigh_rank.f (a0 : Nat) : Option (Int) := if (FloatKind.f64.format.order a0 a0 != some .eq) = true then (some 9223372036854775807) else ((api_Bits.f a0).bind fun t104 => (if (wrap64 (t104)) < 0 then (some (wrap64 ((wrap64 ((-9223372036854775808) - (wrap64 (t104)))) - 1))) else (some (wrap64 (t104)))))
set_option maxHeartbeats 8000000 in
set_option maxRecDepth 100000 in
theorem weigh_rank.calls (a0 : Nat) (r : Int) (w : World) (h : weigh_rank.f a0 = some r) :
  Calls Tryd.prog 33 #[.float .f64 a0] w fun e w' => e = .returned (.int .i64 r) ∧ Drawn0 w w' := by
 have H : (if (FloatKind.f64.format.order a0 a0 != some .eq) = true then (some 9223372036854775807) else ((api_Bits.f a0).bind fun t104 => (if (wrap64 (t104)) < 0 then (some (wrap64 ((wrap64 ((-9223372036854775808) - (wrap64 (t104)))) - 1))) else (some (wrap64 (t104)))))) = some r := h
 clear h
 by_cases c2 : (FloatKind.f64.format.order a0 a0 != some .eq) = true
 ·rw [if_pos c2] at H
  have c2b0 : (FloatKind.f64.format.order a0 a0 != some .eq) = true := c2
  (try (have c2b1 : decide (FloatKind.f64.format.order a0 a0 = some .eq) = false := by simpa using c2))
  (try (have c2b2 : (FloatKind.f64.format.order a0 a0 == some .eq) = false := by simpa using c2))
  (try (have c2b3 : ¬ (FloatKind.f64.format.order a0 a0 = some .eq) := by simpa using c2))
  clear c2
  obtain rfl := Option.some.inj H
  go_enter Tryd.func33, Tryd.ntmps33
  go_wp2
  go_ret
  exact ⟨sqE, sqW⟩
 rw [if_neg c2] at H
 have c2b0 : (FloatKind.f64.format.order a0 a0 != some .eq) = false := by simpa using c2
 (try (have c2b1 : decide (FloatKind.f64.format.order a0 a0 = some .eq) = true := by simpa using c2))
 (try (have c2b2 : (FloatKind.f64.format.order a0 a0 == some .eq) = true := by simpa using c2))
 clear c2
 replace H := Option.bind_eq_some_iff.mp H
 obtain ⟨t104, A30, H⟩ := H
 try dsimp only at H
 have A3 := Aside0.mk A30
 clear A30
 by_cases c4 : (wrap64 (t104)) < 0
 ·rw [if_pos c4] at H
  have c4b0 := decide_eq_true c4
  clear c4
  obtain rfl := Option.some.inj H
  go_enter Tryd.func33, Tryd.ntmps33
  go_wp2_with (first | ((with_reducible refine gate_callee (f := 16) rfl ?_); refine goesL_ (some 8) rfl rfl Tryd.func16 (by kernel_rfl) rfl #[.float .f64 a0] rfl sqA ?_; (with_reducible refine (api_Bits.calls a0 t104 _ A3.out).mono ?_); rintro e w' ⟨rfl, ⟨nd, rfl⟩⟩; refine ⟨_, rfl, ?_⟩))
  go_ret
  exact ⟨sqE, sqW⟩
 rw [if_neg c4] at H
 have c4b0 := decide_eq_false c4
 clear c4
 obtain rfl := Option.some.inj H
 go_enter Tryd.func33, Tryd.ntmps33
 go_wp2_with (first | ((with_reducible refine gate_callee (f := 16) rfl ?_); refine goesL_ (some 8) rfl rfl Tryd.func16 (by kernel_rfl) rfl #[.float .f64 a0] rfl sqA ?_; (with_reducible refine (api_Bits.calls a0 t104 _ A3.out).mono ?_); rintro e w' ⟨rfl, ⟨nd, rfl⟩⟩; refine ⟨_, rfl, ?_⟩))
 go_ret
 exact ⟨sqE, sqW⟩

/-! ### weigh_Order: function 15 -/
def weigh_Order.f (a0 : Nat) (a1 : Nat) : Option (Int) := (weigh_rank.f a0).bind fun t105 => ((weigh_rank.f a1).bind fun t106 => (if t105 < t106 then (some (-1)) else (if t105 > t106 then (some 1) else (some 0))))
set_option maxHeartbeats 8000000 in
set_option maxRecDepth 100000 in
theorem weigh_Order.calls (a0 : Nat) (a1 : Nat) (r : Int) (w : World) (h : weigh_Order.f a0 a1 = some r) :
  Calls Tryd.prog 15 #[.float .f64 a0, .float .f64 a1] w fun e w' => e = .returned (.int .i64 r) ∧ Drawn0 w w' := by
 have H : ((weigh_rank.f a0).bind fun t105 => ((weigh_rank.f a1).bind fun t106 => (if t105 < t106 then (some (-1)) else (if t105 > t106 then (some 1) else (some 0))))) = some r := h
 clear h
 replace H := Option.bind_eq_some_iff.mp H
 obtain ⟨t105, A30, H⟩ := H
 try dsimp only at H
 have A3 := Aside0.mk A30
 clear A30
 replace H := Option.bind_eq_some_iff.mp H
 obtain ⟨t106, A40, H⟩ := H
 try dsimp only at H
 have A4 := Aside0.mk A40
 clear A40
 by_cases c5 : t105 < t106
 ·rw [if_pos c5] at H
  have c5b0 := decide_eq_true c5
  clear c5
  obtain rfl := Option.some.inj H
  go_enter Tryd.func15, Tryd.ntmps15
  go_wp2_with (first | ((with_reducible refine gate_callee (f := 33) rfl ?_); refine goesL_ (some 8) rfl rfl Tryd.func33 (by kernel_rfl) rfl #[.float .f64 a0] rfl sqA ?_; (with_reducible refine (weigh_rank.calls a0 t105 _ A3.out).mono ?_); rintro e w' ⟨rfl, ⟨nd, rfl⟩⟩; refine ⟨_, rfl, ?_⟩) | ((with_reducible refine gate_callee (f := 33) rfl ?_); refine goesL_ (some 10) rfl rfl Tryd.func33 (by kernel_rfl) rfl #[.float .f64 a1] rfl sqA ?_; (with_reducible refine (weigh_rank.calls a1 t106 _ A4.out).mono ?_); rintro e w' ⟨rfl, ⟨nd, rfl⟩⟩; refine ⟨_, rfl, ?_⟩))
  go_ret
  exact ⟨sqE, sqW⟩
 rw [if_neg c5] at H
 have c5b0 := decide_eq_false c5
 clear c5
 by_cases c6 : t105 > t106
 ·rw [if_pos c6] at H
  have c6b0 := decide_eq_true c6
  clear c6
  obtain rfl := Option.some.inj H
  go_enter Tryd.func15, Tryd.ntmps15
  go_wp2_with (first | ((with_reducible refine gate_callee (f := 33) rfl ?_); refine goesL_ (some 8) rfl rfl Tryd.func33 (by kernel_rfl) rfl #[.float .f64 a0] rfl sqA ?_; (with_reducible refine (weigh_rank.calls a0 t105 _ A3.out).mono ?_); rintro e w' ⟨rfl, ⟨nd, rfl⟩⟩; refine ⟨_, rfl, ?_⟩) | ((with_reducible refine gate_callee (f := 33) rfl ?_); refine goesL_ (some 10) rfl rfl Tryd.func33 (by kernel_rfl) rfl #[.float .f64 a1] rfl sqA ?_; (with_reducible refine (weigh_rank.calls a1 t106 _ A4.out).mono ?_); rintro e w' ⟨rfl, ⟨nd, rfl⟩⟩; refine ⟨_, rfl, ?_⟩))
  go_ret
  exact ⟨sqE, sqW⟩
 rw [if_neg c6] at H
 have c6b0 := decide_eq_false c6
 clear c6
 obtain rfl := Option.some.inj H
 go_enter Tryd.func15, Tryd.ntmps15
 go_wp2_with (first | ((with_reducible refine gate_callee (f := 33) rfl ?_); refine goesL_ (some 8) rfl rfl Tryd.func33 (by kernel_rfl) rfl #[.float .f64 a0] rfl sqA ?_; (with_reducible refine (weigh_rank.calls a0 t105 _ A3.out).mono ?_); rintro e w' ⟨rfl, ⟨nd, rfl⟩⟩; refine ⟨_, rfl, ?_⟩) | ((with_reducible refine gate_callee (f := 33) rfl ?_); refine goesL_ (some 10) rfl rfl Tryd.func33 (by kernel_rfl) rfl #[.float .f64 a1] rfl sqA ?_; (with_reducible refine (weigh_rank.calls a1 t106 _ A4.out).mono ?_); rintro e w' ⟨rfl, ⟨nd, rfl⟩⟩; refine ⟨_, rfl, ?_⟩))
 go_ret
 exact ⟨sqE, sqW⟩

/-! ### math_Signbit: function 36 -/
def math_Signbit.f (a0 : Nat) : Option (Bool) := some (decide ((wrap64 (((a0 : Nat) : Int))) < 0))
set_option maxHeartbeats 8000000 in
set_option maxRecDepth 100000 in
theorem math_Signbit.calls (a0 : Nat) (r : Bool) (w : World) (h : math_Signbit.f a0 = some r) :
  Calls Tryd.prog 36 #[.float .f64 a0] w fun e w' => e = .returned (.bool r) ∧ Drawn0 w w' := by
 have H : (some (decide ((wrap64 (((a0 : Nat) : Int))) < 0))) = some r := h
 clear h
 have hf2 := fun w_ : World => Rm.x_Float64bits a0 w_
 obtain rfl := Option.some.inj H
 go_enter Tryd.func36, Tryd.ntmps36
 go_wp2
 go_ret
 exact ⟨sqE, sqW⟩

/-! ### math_Abs: function 60 -/
def math_Abs.f (a0 : Nat) : Option (Nat) := some (((Go.bits .andNot .u64 ((a0 : Nat) : Int) 9223372036854775808) : Int).toNat)
set_option maxHeartbeats 8000000 in
set_option maxRecDepth 100000 in
theorem math_Abs.calls (a0 : Nat) (r : Nat) (w : World) (h : math_Abs.f a0 = some r) :
  Calls Tryd.prog 60 #[.float .f64 a0] w fun e w' => e = .returned (.float .f64 r) ∧ Drawn0 w w' := by
 have H : (some (((Go.bits .andNot .u64 ((a0 : Nat) : Int) 9223372036854775808) : Int).toNat)) = some r := h
 clear h
 have hf2 := fun w_ : World => Rm.x_Float64bits a0 w_
 have hf3 := fun w_ : World => Rm.x_Float64frombits (Go.bits .andNot .u64 ((a0 : Nat) : Int) 9223372036854775808) w_
 obtain rfl := Option.some.inj H
 go_enter Tryd.func60, Tryd.ntmps60
 go_wp2
 go_ret
 exact ⟨sqE, sqW⟩

/-! ### math_IsInf: function 37 -/
def math_IsInf.f (a0 : Nat) (a1 : Int) : Option (Bool) := if a1 = 0 then ((math_Abs.f a0).bind fun t107 => (some (FloatKind.f64.format.order t107 (9218868437227405311 : Nat) == some .gt))) else (if a1 < 0 then (some (FloatKind.f64.format.order (Op.negFloat .f64 a0) (9218868437227405311 : Nat) == some .gt)) else (some (FloatKind.f64.format.order a0 (9218868437227405311 : Nat) == some .gt)))
set_option maxHeartbeats 8000000 in
set_option maxRecDepth 100000 in
theorem math_IsInf.calls (a0 : Nat) (a1 : Int) (r : Bool) (w : World) (h : math_IsInf.f a0 a1 = some r) :
  Calls Tryd.prog 37 #[.float .f64 a0, .int .i64 a1] w fun e w' => e = .returned (.bool r) ∧ Drawn0 w w' := by
 have H : (if a1 = 0 then ((math_Abs.f a0).bind fun t107 => (some (FloatKind.f64.format.order t107 (9218868437227405311 : Nat) == some .gt))) else (if a1 < 0 then (some (FloatKind.f64.format.order (Op.negFloat .f64 a0) (9218868437227405311 : Nat) == some .gt)) else (some (FloatKind.f64.format.order a0 (9218868437227405311 : Nat) == some .gt)))) = some r := h
 clear h
 by_cases c3 : a1 = 0
 ·rw [if_pos c3] at H
  have c3b0 := beq_iff_eq.mpr c3
  have c3b1 := bne_eq_false_iff_eq.mpr c3
  clear c3
  replace H := Option.bind_eq_some_iff.mp H
  obtain ⟨t107, A40, H⟩ := H
  try dsimp only at H
  have A4 := Aside0.mk A40
  clear A40
  obtain rfl := Option.some.inj H
  go_enter Tryd.func37, Tryd.ntmps37
  go_wp2_with (first | ((with_reducible refine gate_callee (f := 60) rfl ?_); refine goesL_ (some 8) rfl rfl Tryd.func60 (by kernel_rfl) rfl #[.float .f64 a0] rfl sqA ?_; (with_reducible refine (math_Abs.calls a0 t107 _ A4.out).mono ?_); rintro e w' ⟨rfl, ⟨nd, rfl⟩⟩; refine ⟨_, rfl, ?_⟩))
  go_ret
  exact ⟨sqE, sqW⟩
 rw [if_neg c3] at H
 have c3b0 := beq_eq_false_iff_ne.mpr c3
 have c3b1 := bne_iff_ne.mpr c3
 by_cases c5 : a1 < 0
 ·rw [if_pos c5] at H
  have c5b0 := decide_eq_true c5
  clear c5
  obtain rfl := Option.some.inj H
  go_enter Tryd.func37, Tryd.ntmps37
  go_wp2
  go_ret
  exact ⟨sqE, sqW⟩
 rw [if_neg c5] at H
 have c5b0 := decide_eq_false c5
 clear c5
 obtain rfl := Option.some.inj H
 go_enter Tryd.func37, Tryd.ntmps37
 go_wp2
 go_ret
 exact ⟨sqE, sqW⟩

-- NOT PRINTED: function 61 (math_archFloor)

/-! ### math_IsNaN: function 83 -/
def math_IsNaN.f (a0 : Nat) : Option (Bool) := some (FloatKind.f64.format.order a0 a0 != some .eq)
set_option maxHeartbeats 8000000 in
set_option maxRecDepth 100000 in
theorem math_IsNaN.calls (a0 : Nat) (r : Bool) (w : World) (h : math_IsNaN.f a0 = some r) :
  Calls Tryd.prog 83 #[.float .f64 a0] w fun e w' => e = .returned (.bool r) ∧ Drawn0 w w' := by
 have H : (some (FloatKind.f64.format.order a0 a0 != some .eq)) = some r := h
 clear h
 obtain rfl := Option.some.inj H
 go_enter Tryd.func83, Tryd.ntmps83
 go_wp2
 go_ret
 exact ⟨sqE, sqW⟩

/-! ### math_Copysign: function 48 -/
def math_Copysign.f (a0 : Nat) (a1 : Nat) : Option (Nat) := some (((Go.bits .or .u64 (Go.bits .andNot .u64 ((a0 : Nat) : Int) 9223372036854775808) (Go.bits .and .u64 ((a1 : Nat) : Int) 9223372036854775808)) : Int).toNat)
set_option maxHeartbeats 8000000 in
set_option maxRecDepth 100000 in
theorem math_Copysign.calls (a0 : Nat) (a1 : Nat) (r : Nat) (w : World) (h : math_Copysign.f a0 a1 = some r) :
  Calls Tryd.prog 48 #[.float .f64 a0, .float .f64 a1] w fun e w' => e = .returned (.float .f64 r) ∧ Drawn0 w w' := by
 have H : (some (((Go.bits .or .u64 (Go.bits .andNot .u64 ((a0 : Nat) : Int) 9223372036854775808) (Go.bits .and .u64 ((a1 : Nat) : Int) 9223372036854775808)) : Int).toNat)) = some r := h
 clear h
 have hf3 := fun w_ : World => Rm.x_Float64bits a0 w_
 have hf4 := fun w_ : World => Rm.x_Float64bits a1 w_
 have hf5 := fun w_ : World => Rm.x_Float64frombits (Go.bits .or .u64 (Go.bits .andNot .u64 ((a0 : Nat) : Int) 9223372036854775808) (Go.bits .and .u64 ((a1 : Nat) : Int) 9223372036854775808)) w_
 obtain rfl := Option.some.inj H
 go_enter Tryd.func48, Tryd.ntmps48
 go_wp2
 go_ret
 exact ⟨sqE, sqW⟩

-- NOT PRINTED: function 101 (math_archTrunc)

/-! ### math_Floor: function 38 -/
def math_Floor.f (a0 : Nat) : Option (Nat) := (Rm.archFloorP a0).bind fun t112 => (some t112)
set_option maxHeartbeats 8000000 in
set_option maxRecDepth 100000 in
theorem math_Floor.calls (a0 : Nat) (r : Nat) (w : World) (h : math_Floor.f a0 = some r) :
  Calls Tryd.prog 38 #[.float .f64 a0] w fun e w' => e = .returned (.float .f64 r) ∧ Drawn0 w w' := by
 have H : ((Rm.archFloorP a0).bind fun t112 => (some t112)) = some r := h
 clear h
 replace H := Option.bind_eq_some_iff.mp H
 obtain ⟨t112, A20, H⟩ := H
 try dsimp only at H
 have hf3 := fun w_ : World => Rm.x_archFloor a0 t112 A20 w_
 clear A20
 obtain rfl := Option.some.inj H
 go_enter Tryd.func38, Tryd.ntmps38
 go_wp2
 go_ret
 exact ⟨sqE, sqW⟩

-- NOT PRINTED: function 63 (math_archLog10)

-- NOT PRINTED: function 95 (math_archLog)

/-! ### math_Inf: function 42 -/
def math_Inf.f (a0 : Int) : Option (Nat) := if a0 ≥ 0 then (some ((9218868437227405312 : Int).toNat)) else (some ((18442240474082181120 : Int).toNat))
set_option maxHeartbeats 8000000 in
set_option maxRecDepth 100000 in
theorem math_Inf.calls (a0 : Int) (r : Nat) (w : World) (h : math_Inf.f a0 = some r) :
  Calls Tryd.prog 42 #[.int .i64 a0] w fun e w' => e = .returned (.float .f64 r) ∧ Drawn0 w w' := by
 have H : (if a0 ≥ 0 then (some ((9218868437227405312 : Int).toNat)) else (some ((18442240474082181120 : Int).toNat))) = some r := h
 clear h
 by_cases c2 : a0 ≥ 0
 ·rw [if_pos c2] at H
  have c2b0 := decide_eq_true c2
  clear c2
  have hf3 := fun w_ : World => Rm.x_Float64frombits 9218868437227405312 w_
  obtain rfl := Option.some.inj H
  go_enter Tryd.func42, Tryd.ntmps42
  go_wp2
  go_ret
  exact ⟨sqE, sqW⟩
 rw [if_neg c2] at H
 have c2b0 := decide_eq_false c2
 clear c2
 have hf4 := fun w_ : World => Rm.x_Float64frombits 18442240474082181120 w_
 obtain rfl := Option.some.inj H
 go_enter Tryd.func42, Tryd.ntmps42
 go_wp2
 go_ret
 exact ⟨sqE, sqW⟩

-- NOT PRINTED: function 109 (math_archFrexp)

/-! ### math_normalize: function 99 -/
def math_normalize.f (a0 : Nat) : Option (Nat × Int) := (math_Abs.f a0).bind fun t113 => (if (FloatKind.f64.format.order t113 (4503599627370496 : Nat) == some .lt) = true then ((floatBits .mul .f64 a0 (4841369599423283200 : Nat)).bind fun t114 => (some (t114, (-52)))) else (some (a0, 0)))
set_option maxHeartbeats 8000000 in
set_option maxRecDepth 100000 in
theorem math_normalize.calls (a0 : Nat) (r1 : Nat) (r2 : Int) (w : World) (h : math_normalize.f a0 = some (r1, r2)) :
  Calls Tryd.prog 99 #[.float .f64 a0] w fun e w' => e = .returned (.tuple #[.float .f64 r1, .int .i64 r2]) ∧ Drawn0 w w' := by
 have H : ((math_Abs.f a0).bind fun t113 => (if (FloatKind.f64.format.order t113 (4503599627370496 : Nat) == some .lt) = true then ((floatBits .mul .f64 a0 (4841369599423283200 : Nat)).bind fun t114 => (some (t114, (-52)))) else (some (a0, 0)))) = some (r1, r2) := h
 clear h
 replace H := Option.bind_eq_some_iff.mp H
 obtain ⟨t113, A20, H⟩ := H
 try dsimp only at H
 have A2 := Aside0.mk A20
 clear A20
 by_cases c3 : (FloatKind.f64.format.order t113 (4503599627370496 : Nat) == some .lt) = true
 ·rw [if_pos c3] at H
  have c3b0 : (FloatKind.f64.format.order t113 (4503599627370496 : Nat) == some .lt) = true := c3
  (try (have c3b1 : decide (FloatKind.f64.format.order t113 (4503599627370496 : Nat) = some .lt) = true := by simpa using c3))
  (try (have c3b2 : (FloatKind.f64.format.order t113 (4503599627370496 : Nat) == some .lt) = true := by simpa using c3))
  clear c3
  replace H := Option.bind_eq_some_iff.mp H
  obtain ⟨t114, A40, H⟩ := H
  try dsimp only at H
  have hf5 : ∀ w_ : World, Sem.run Tryd.prog (binOp .mul 23 (.float .f64 a0) (.float .f64 (4841369599423283200 : Nat))) w_ = .ok (.float .f64 t114) w_ := fun w_ => run_float_arith w_ .mul 23 .f64 a0 (4841369599423283200 : Nat) t114 A40
  clear A40
  simp only [Option.some.injEq, Prod.mk.injEq] at H
  obtain ⟨rfl, rfl⟩ := H
  go_enter Tryd.func99, Tryd.ntmps99
  go_wp2_with (first | ((with_reducible refine gate_callee (f := 60) rfl ?_); refine goesL_ (some 5) rfl rfl Tryd.func60 (by kernel_rfl) rfl #[.float .f64 a0] rfl sqA ?_; (with_reducible refine (math_Abs.calls a0 t113 _ A2.out).mono ?_); rintro e w' ⟨rfl, ⟨nd, rfl⟩⟩; refine ⟨_, rfl, ?_⟩))
  go_ret2
  exact ⟨sqE, sqW⟩
 rw [if_neg c3] at H
 have c3b0 : (FloatKind.f64.format.order t113 (4503599627370496 : Nat) == some .lt) = false := by simpa using c3
 (try (have c3b1 : decide (FloatKind.f64.format.order t113 (4503599627370496 : Nat) = some .lt) = false := by simpa using c3))
 (try (have c3b2 : (FloatKind.f64.format.order t113 (4503599627370496 : Nat) == some .lt) = false := by simpa using c3))
 (try (have c3b3 : ¬ (FloatKind.f64.format.order t113 (4503599627370496 : Nat) = some .lt) := by simpa using c3))
 clear c3
 simp only [Option.some.injEq, Prod.mk.injEq] at H
 obtain ⟨rfl, rfl⟩ := H
 go_enter Tryd.func99, Tryd.ntmps99
 go_wp2_with (first | ((with_reducible refine gate_callee (f := 60) rfl ?_); refine goesL_ (some 5) rfl rfl Tryd.func60 (by kernel_rfl) rfl #[.float .f64 a0] rfl sqA ?_; (with_reducible refine (math_Abs.calls a0 t113 _ A2.out).mono ?_); rintro e w' ⟨rfl, ⟨nd, rfl⟩⟩; refine ⟨_, rfl, ?_⟩))
 go_ret2
 exact ⟨sqE, sqW⟩

/-! ### math_frexp: function 110 -/
def math_frexp.j0 : Nat → Nat → Bool → Option (Nat × Int)
 | 0, _, _ => none
 | k + 1, x0, x9 => if x9 = true then (some (x0, 0)) else ((math_normalize.f x0).bind fun bt117 => (some (((Go.bits .or .u64 (Go.bits .andNot .u64 ((bt117.1 : Nat) : Int) 9218868437227405312) 4602678819172646912) : Int).toNat, wrap64 (bt117.2 + (wrap64 ((wrap64 ((wrap64 (Go.bits .and .u64 (((bt117.1 : Nat) : Int) / 4503599627370496) 2047)) - 1023)) + 1))))))
def math_frexp.f (k : Nat) (a0 : Nat) : Option (Nat × Int) := if (FloatKind.f64.format.order a0 (0 : Nat) == some .eq) = true then (some (a0, 0)) else ((math_IsInf.f a0 0).bind fun t115 => (if t115 = true then (math_frexp.j0 k a0 true) else ((math_IsNaN.f a0).bind fun t116 => (math_frexp.j0 k a0 t116))))
theorem math_frexp.mono_l : ∀ k, (∀ y0 y1, LeO (math_frexp.j0 k y0 y1) (math_frexp.j0 (k + 1) y0 y1))
 | 0 => fun _ _ r h => by simp [math_frexp.j0] at h
 | k + 1 => by
  have ih0 := math_frexp.mono_l k
  intro y0 y1
  unfold math_frexp.j0
  repeat' first | (with_reducible first | apply ih0 | apply LeO.refl | apply LeO.none | refine LeO.ite ?_ ?_ | refine LeO.bind ?_ (fun _ => ?_)) | apply ih0 | apply LeO.none | refine LeO.ite ?_ ?_ | refine LeO.bind ?_ (fun _ => ?_)
theorem math_frexp.mono : ∀ a0 k, LeO (math_frexp.f k a0) (math_frexp.f (k + 1) a0) := by
 intro a0 k
 have ih0 := math_frexp.mono_l k
 unfold math_frexp.f
 repeat' first | (with_reducible first | apply ih0 | apply LeO.refl | apply LeO.none | refine LeO.ite ?_ ?_ | refine LeO.bind ?_ (fun _ => ?_)) | apply ih0 | apply LeO.none | refine LeO.ite ?_ ?_ | refine LeO.bind ?_ (fun _ => ?_)
set_option maxHeartbeats 8000000 in
set_option maxRecDepth 100000 in
theorem math_frexp.calls (k : Nat) (a0 : Nat) (r1 : Nat) (r2 : Int) (w : World) (h : math_frexp.f k a0 = some (r1, r2)) :
  Calls Tryd.prog 110 #[.float .f64 a0] w fun e w' => e = .returned (.tuple #[.float .f64 r1, .int .i64 r2]) ∧ Drawn0 w w' := by
 have H : (if (FloatKind.f64.format.order a0 (0 : Nat) == some .eq) = true then (some (a0, 0)) else ((math_IsInf.f a0 0).bind fun t115 => (if t115 = true then (math_frexp.j0 k a0 true) else ((math_IsNaN.f a0).bind fun t116 => (math_frexp.j0 k a0 t116))))) = some (r1, r2) := h
 clear h
 by_cases c2 : (FloatKind.f64.format.order a0 (0 : Nat) == some .eq) = true
 ·rw [if_pos c2] at H
  have c2b0 : (FloatKind.f64.format.order a0 (0 : Nat) == some .eq) = true := c2
  (try (have c2b1 : decide (FloatKind.f64.format.order a0 (0 : Nat) = some .eq) = true := by simpa using c2))
  (try (have c2b2 : (FloatKind.f64.format.order a0 (0 : Nat) == some .eq) = true := by simpa using c2))
  clear c2
  simp only [Option.some.injEq, Prod.mk.injEq] at H
  obtain ⟨rfl, rfl⟩ := H
  go_enter Tryd.func110, Tryd.ntmps110
  go_wp2
  go_ret2
  exact ⟨sqE, sqW⟩
 rw [if_neg c2] at H
 have c2b0 : (FloatKind.f64.format.order a0 (0 : Nat) == some .eq) = false := by simpa using c2
 (try (have c2b1 : decide (FloatKind.f64.format.order a0 (0 : Nat) = some .eq) = false := by simpa using c2))
 (try (have c2b2 : (FloatKind.f64.format.order a0 (0 : Nat) == some .eq) = false := by simpa using c2))
 (try (have c2b3 : ¬ (FloatKind.f64.format.order a0 (0 : Nat) = some .eq) := by simpa using c2))
 clear c2
 have HC3 := Aside0.mk H
 clear H
 go_enter Tryd.func110, Tryd.ntmps110
 go_upto_region 3 with (fail)
 go_cut [9] (fun v9 wc => ∃ (kq : Nat) (x9_2 : Bool), v9 = .bool x9_2 ∧ Aside0 (math_frexp.j0 kq a0 x9_2 = some (r1, r2)) ∧ Aside0 (kq ≤ k) ∧ Drawn0 w wc)
 case first =>
  have H := HC3.out
  clear HC3
  replace H := Option.bind_eq_some_iff.mp H
  obtain ⟨t115, A40, H⟩ := H
  try dsimp only at H
  have A4 := Aside0.mk A40
  clear A40
  by_cases c5 : t115 = true
  ·subst c5
   have H1 : (math_frexp.j0 k a0 true) = some (r1, r2) := by rw [if_pos rfl] at H; exact H
   clear H
   have H := H1
   clear H1
   have H' := Aside0.mk H
   clear H
   go_wp2_with (first | ((with_reducible refine gate_callee (f := 37) rfl ?_); refine goesL_ (some 11) rfl rfl Tryd.func37 (by kernel_rfl) rfl #[.float .f64 a0, .int .i64 0] rfl sqA ?_; (with_reducible refine (math_IsInf.calls a0 0 true _ A4.out).mono ?_); rintro e w' ⟨rfl, ⟨nd, rfl⟩⟩; refine ⟨_, rfl, ?_⟩))
   go_meet
   case rel => exact ⟨_, (true), sqE, H', ⟨by first | omega | exact Nat.le_refl _⟩, sqW⟩
  replace c5 := Bool.eq_false_iff.mpr c5
  subst c5
  have H1 : ((math_IsNaN.f a0).bind fun t116 => (math_frexp.j0 k a0 t116)) = some (r1, r2) := by rw [if_neg (show ¬ (false = true) by decide)] at H; exact H
  clear H
  have H := H1
  clear H1
  replace H := Option.bind_eq_some_iff.mp H
  obtain ⟨t116, A60, H⟩ := H
  try dsimp only at H
  have A6 := Aside0.mk A60
  clear A60
  have H' := Aside0.mk H
  clear H
  go_wp2_with (first | ((with_reducible refine gate_callee (f := 37) rfl ?_); refine goesL_ (some 11) rfl rfl Tryd.func37 (by kernel_rfl) rfl #[.float .f64 a0, .int .i64 0] rfl sqA ?_; (with_reducible refine (math_IsInf.calls a0 0 false _ A4.out).mono ?_); rintro e w' ⟨rfl, ⟨nd, rfl⟩⟩; refine ⟨_, rfl, ?_⟩) | (go_at_call 83; (with_reducible refine (math_IsNaN.calls a0 t116 _ A6.out).mono ?_); rintro e w' ⟨rfl, ⟨nd, rfl⟩⟩))
  go_meet
  case rel => exact ⟨_, (t116), sqE, H', ⟨by first | omega | exact Nat.le_refl _⟩, sqW⟩
 case rest =>
  clear HC3
  try clear c1
  try clear c2
  try clear c2b0
  try clear c2b1
  try clear c2b2
  try clear p2
  try clear c3
  try clear c5
  obtain ⟨kq, x9_2, rfl, HA, HJ2, ⟨mc2, rfl⟩⟩ := hcut
  cases kq with
  | zero => exact absurd HA.out (by simp [math_frexp.j0])
  | succ kj2 =>
   have H := HA.out
   clear HA
   simp only [math_frexp.j0] at H
   by_cases c7 : x9_2 = true
   ·subst c7
    have H1 : (some (a0, 0)) = some (r1, r2) := by rw [if_pos rfl] at H; exact H
    clear H
    have H := H1
    clear H1
    simp only [Option.some.injEq, Prod.mk.injEq] at H
    obtain ⟨rfl, rfl⟩ := H
    go_wp2
    go_ret2
    exact ⟨sqE, sqW⟩
   replace c7 := Bool.eq_false_iff.mpr c7
   subst c7
   have H1 : ((math_normalize.f a0).bind fun bt117 => (some (((Go.bits .or .u64 (Go.bits .andNot .u64 ((bt117.1 : Nat) : Int) 9218868437227405312) 4602678819172646912) : Int).toNat, wrap64 (bt117.2 + (wrap64 ((wrap64 ((wrap64 (Go.bits .and .u64 (((bt117.1 : Nat) : Int) / 4503599627370496) 2047)) - 1023)) + 1)))))) = some (r1, r2) := by rw [if_neg (show ¬ (false = true) by decide)] at H; exact H
   clear H
   have H := H1
   clear H1
   replace H := Option.bind_eq_some_iff.mp H
   obtain ⟨⟨t117, t118⟩, A80, H⟩ := H
   try dsimp only at H
   have A8 := Aside0.mk A80
   clear A80
   have hf9 := fun w_ : World => Rm.x_Float64bits t117 w_
   have hf10 := fun w_ : World => Rm.x_Float64frombits (Go.bits .or .u64 (Go.bits .andNot .u64 ((t117 : Nat) : Int) 9218868437227405312) 4602678819172646912) w_
   simp only [Option.some.injEq, Prod.mk.injEq] at H
   obtain ⟨rfl, rfl⟩ := H
   go_wp2_with (first | ((with_reducible refine gate_callee (f := 99) rfl ?_); refine goesL_ (some 19) rfl rfl Tryd.func99 (by kernel_rfl) rfl #[.float .f64 a0] rfl sqA ?_; (with_reducible refine (math_normalize.calls a0 t117 t118 _ A8.out).mono ?_); rintro e w' ⟨rfl, ⟨nd, rfl⟩⟩; refine ⟨_, rfl, ?_⟩))
   go_ret2
   exact ⟨sqE, sqW⟩

/-! ### math_Frexp: function 100 -/
def math_Frexp.f (k : Nat) (a0 : Nat) : Option (Nat × Int) := (math_frexp.f k a0).bind fun bt119 => (some (bt119.1, bt119.2))
theorem math_Frexp.mono : ∀ a0 k, LeO (math_Frexp.f k a0) (math_Frexp.f (k + 1) a0) := by
 intro a0 k
 unfold math_Frexp.f
 repeat' first | (with_reducible first | apply math_frexp.mono | apply LeO.refl | apply LeO.none | refine LeO.ite ?_ ?_ | refine LeO.bind ?_ (fun _ => ?_)) | apply math_frexp.mono | apply LeO.none | refine LeO.ite ?_ ?_ | refine LeO.bind ?_ (fun _ => ?_)
set_option maxHeartbeats 8000000 in
set_option maxRecDepth 100000 in
theorem math_Frexp.calls (k : Nat) (a0 : Nat) (r1 : Nat) (r2 : Int) (w : World) (h : math_Frexp.f k a0 = some (r1, r2)) :
  Calls Tryd.prog 100 #[.float .f64 a0] w fun e w' => e = .returned (.tuple #[.float .f64 r1, .int .i64 r2]) ∧ Drawn0 w w' := by
 have H : ((math_frexp.f k a0).bind fun bt119 => (some (bt119.1, bt119.2))) = some (r1, r2) := h
 clear h
 replace H := Option.bind_eq_some_iff.mp H
 obtain ⟨⟨t119, t120⟩, A20, H⟩ := H
 try dsimp only at H
 have A2 := Aside0.mk A20
 clear A20
 simp only [Option.some.injEq, Prod.mk.injEq] at H
 obtain ⟨rfl, rfl⟩ := H
 go_enter Tryd.func100, Tryd.ntmps100
 go_wp2_with (first | ((with_reducible refine gate_callee (f := 110) rfl ?_); refine goesL_ (some 9) rfl rfl Tryd.func110 (by kernel_rfl) rfl #[.float .f64 a0] rfl sqA ?_; (with_reducible refine (math_frexp.calls k a0 t119 t120 _ A2.out).mono ?_); rintro e w' ⟨rfl, ⟨nd, rfl⟩⟩; refine ⟨_, rfl, ?_⟩))
 go_ret2
 exact ⟨sqE, sqW⟩

end Go.Proofs.YtfmjdoofopamkaaDoor.W
