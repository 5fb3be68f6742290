-- written by wip/pp.py of this session (the kit's print with patches); checked by Lean alone
import Derived.Test.YtfmjdoofopamkaaDoorWx0
import Derived.Test.YtfmjdoofopamkaaDoorWx1
import Derived.Test.YtfmjdoofopamkaaDoorWx6
import Derived.Test.YtfmjdoofopamkaaDoorWx7
import Derived.Test.YtfmjdoofopamkaaDoorWx10
namespace Go.Proofs.YtfmjdoofopamkaaDoor.W
open Go.RowKit Go.Proofs.YtfmjdoofopamkaaDoorW.PrintWords Go.Proofs.YtfmjdoofopamkaaDoorW.PrintLast Go.Proofs.YtfmjdoofopamkaaDoorW.PrintMore
attribute [local go_sem] max2_int min2_int max_two min_two max_three min_three max_four min_four   -- for this text's walks alone
set_option linter.unusedVariables false
set_option linter.unusedSimpArgs false

/-! ### endonymlaw2_WeighBack: function 6 -/
def endonymlaw2_WeighBack.f (k : Nat) (a0 : Int) : Option (Bool) := (api_Float.f a0).bind fun t467 => (if (FloatKind.f64.format.order t467 t467 != some .eq) = true then ((endonymlaw2_told.f k).bind fun t468 => (if t468 = true then ((weigh_Print.f k t467).bind fun t469 => (some (t469.toList == ([110, 97, 110] : List UInt8)))) else (some false))) else ((weigh_Print.f k t467).bind fun t470 => ((weigh_Parse.f k t470).bind fun bt471 => ((endonymlaw2_told.f k).bind fun t473 => (if t473 = true then (if bt471.2 = 0 then ((api_Bits.f bt471.1).bind fun t474 => (some (t474 == a0))) else (some false)) else (some false))))))
theorem endonymlaw2_WeighBack.mono : ∀ a0 k, LeO (endonymlaw2_WeighBack.f k a0) (endonymlaw2_WeighBack.f (k + 1) a0) := by
 intro a0 k
 unfold endonymlaw2_WeighBack.f
 repeat' first | (with_reducible first | apply endonymlaw2_told.mono | apply weigh_Parse.mono | apply weigh_Print.mono | apply LeO.refl | apply LeO.none | refine LeO.ite ?_ ?_ | refine LeO.bind ?_ (fun _ => ?_)) | apply endonymlaw2_told.mono | apply weigh_Parse.mono | apply weigh_Print.mono | apply LeO.none | refine LeO.ite ?_ ?_ | refine LeO.bind ?_ (fun _ => ?_)
set_option maxHeartbeats 8000000 in
set_option maxRecDepth 100000 in
theorem endonymlaw2_WeighBack.calls (k : Nat) (a0 : Int) (r : Bool) (w : World) (htab : Aside0 (Rm.Tab w)) (h : endonymlaw2_WeighBack.f k a0 = some r) :
  Calls Tryd.prog 6 #[.int .u64 a0] w fun e w' => e = .returned (.bool r) ∧ Below w.heap.size w w' := by
 have HB := Aside0.mk (Below.refl w.heap.size w)
 have H : ((api_Float.f a0).bind fun t467 => (if (FloatKind.f64.format.order t467 t467 != some .eq) = true then ((endonymlaw2_told.f k).bind fun t468 => (if t468 = true then ((weigh_Print.f k t467).bind fun t469 => (some (t469.toList == ([110, 97, 110] : List UInt8)))) else (some false))) else ((weigh_Print.f k t467).bind fun t470 => ((weigh_Parse.f k t470).bind fun bt471 => ((endonymlaw2_told.f k).bind fun t473 => (if t473 = true then (if bt471.2 = 0 then ((api_Bits.f bt471.1).bind fun t474 => (some (t474 == a0))) else (some false)) else (some false))))))) = some r := h
 clear h
 replace H := Option.bind_eq_some_iff.mp H
 obtain ⟨t467, A20, H⟩ := H
 try dsimp only at H
 have A2 := Aside0.mk A20
 clear A20
 by_cases c3 : (FloatKind.f64.format.order t467 t467 != some .eq) = true
 ·rw [if_pos c3] at H
  have c3b0 : (FloatKind.f64.format.order t467 t467 != some .eq) = true := c3
  (try (have c3b1 : decide (FloatKind.f64.format.order t467 t467 = some .eq) = false := by simpa using c3))
  (try (have c3b2 : (FloatKind.f64.format.order t467 t467 == some .eq) = false := by simpa using c3))
  (try (have c3b3 : ¬ (FloatKind.f64.format.order t467 t467 = some .eq) := by simpa using c3))
  clear c3
  replace H := Option.bind_eq_some_iff.mp H
  obtain ⟨t468, A40, H⟩ := H
  try dsimp only at H
  have A4 := Aside0.mk A40
  clear A40
  by_cases c5 : t468 = true
  ·subst c5
   have H1 : ((weigh_Print.f k t467).bind fun t469 => (some (t469.toList == ([110, 97, 110] : List UInt8)))) = some r := by rw [if_pos rfl] at H; exact H
   clear H
   have H := H1
   clear H1
   replace H := Option.bind_eq_some_iff.mp H
   obtain ⟨t469, A60, H⟩ := H
   try dsimp only at H
   have A6 := Aside0.mk A60
   clear A60
   obtain rfl := Option.some.inj H
   go_enter Tryd.func6, Tryd.ntmps6
   go_wp2_with (first | ((with_reducible refine gate_callee (f := 11) rfl ?_); refine goesL_ (some 7) rfl rfl Tryd.func11 (by kernel_rfl) rfl #[.int .u64 a0] rfl sqA ?_; (with_reducible refine (api_Float.calls a0 t467 _ A2.out).mono ?_); rintro e w' ⟨rfl, ⟨nd, rfl⟩⟩; refine ⟨_, rfl, ?_⟩) | ((with_reducible refine gate_callee (f := 12) rfl ?_); refine goesL_ (some 11) rfl rfl Tryd.func12 (by kernel_rfl) rfl #[] rfl sqA ?_; (with_reducible refine (endonymlaw2_told.calls k  true _ ⟨htab.out.below sqB⟩ A4.out).mono ?_); rintro e w7 ⟨rfl, hb⟩; refine ⟨_, rfl, ?_⟩; have n0_ := Aside0.mk (below_step sqB hb); clear HB; have HB := n0_; clear n0_; (try clear hb); (try clear hb2); (try clear hk); (try clear hi)) | (go_at_call 18; (with_reducible refine (weigh_Print.calls k t467 t469 _ ⟨htab.out.below sqB⟩ A6.out).mono ?_); rintro e w8 ⟨rfl, hb⟩; have n0_ := Aside0.mk (below_step sqB hb); clear HB; have HB := n0_; clear n0_; (try clear hb); (try clear hb2); (try clear hk); (try clear hi)))
   go_ret
   exact ⟨sqE', sqB⟩
  replace c5 := Bool.eq_false_iff.mpr c5
  subst c5
  have H1 : (some false) = some r := by rw [if_neg (show ¬ (false = true) by decide)] at H; exact H
  clear H
  have H := H1
  clear H1
  obtain rfl := Option.some.inj H
  go_enter Tryd.func6, Tryd.ntmps6
  go_wp2_with (first | ((with_reducible refine gate_callee (f := 11) rfl ?_); refine goesL_ (some 7) rfl rfl Tryd.func11 (by kernel_rfl) rfl #[.int .u64 a0] rfl sqA ?_; (with_reducible refine (api_Float.calls a0 t467 _ A2.out).mono ?_); rintro e w' ⟨rfl, ⟨nd, rfl⟩⟩; refine ⟨_, rfl, ?_⟩) | ((with_reducible refine gate_callee (f := 12) rfl ?_); refine goesL_ (some 11) rfl rfl Tryd.func12 (by kernel_rfl) rfl #[] rfl sqA ?_; (with_reducible refine (endonymlaw2_told.calls k  false _ ⟨htab.out.below sqB⟩ A4.out).mono ?_); rintro e w9 ⟨rfl, hb⟩; refine ⟨_, rfl, ?_⟩; have n0_ := Aside0.mk (below_step sqB hb); clear HB; have HB := n0_; clear n0_; (try clear hb); (try clear hb2); (try clear hk); (try clear hi)))
  go_ret
  exact ⟨sqE', sqB⟩
 rw [if_neg c3] at H
 have c3b0 : (FloatKind.f64.format.order t467 t467 != some .eq) = false := by simpa using c3
 (try (have c3b1 : decide (FloatKind.f64.format.order t467 t467 = some .eq) = true := by simpa using c3))
 (try (have c3b2 : (FloatKind.f64.format.order t467 t467 == some .eq) = true := by simpa using c3))
 clear c3
 replace H := Option.bind_eq_some_iff.mp H
 obtain ⟨t470, A100, H⟩ := H
 try dsimp only at H
 have A10 := Aside0.mk A100
 clear A100
 replace H := Option.bind_eq_some_iff.mp H
 obtain ⟨⟨t471, t472⟩, A110, H⟩ := H
 try dsimp only at H
 have A11 := Aside0.mk A110
 clear A110
 replace H := Option.bind_eq_some_iff.mp H
 obtain ⟨t473, A120, H⟩ := H
 try dsimp only at H
 have A12 := Aside0.mk A120
 clear A120
 by_cases c13 : t473 = true
 ·subst c13
  have H1 : (if t472 = 0 then ((api_Bits.f t471).bind fun t474 => (some (t474 == a0))) else (some false)) = some r := by rw [if_pos rfl] at H; exact H
  clear H
  have H := H1
  clear H1
  by_cases c14 : t472 = 0
  ·rw [if_pos c14] at H
   have c14b0 := beq_iff_eq.mpr c14
   have c14b1 := bne_eq_false_iff_eq.mpr c14
   clear c14
   replace H := Option.bind_eq_some_iff.mp H
   obtain ⟨t474, A150, H⟩ := H
   try dsimp only at H
   have A15 := Aside0.mk A150
   clear A150
   obtain rfl := Option.some.inj H
   go_enter Tryd.func6, Tryd.ntmps6
   go_wp2_with (first | ((with_reducible refine gate_callee (f := 11) rfl ?_); refine goesL_ (some 7) rfl rfl Tryd.func11 (by kernel_rfl) rfl #[.int .u64 a0] rfl sqA ?_; (with_reducible refine (api_Float.calls a0 t467 _ A2.out).mono ?_); rintro e w' ⟨rfl, ⟨nd, rfl⟩⟩; refine ⟨_, rfl, ?_⟩) | ((with_reducible refine gate_callee (f := 18) rfl ?_); refine goesL_ (some 19) rfl rfl Tryd.func18 (by kernel_rfl) rfl #[.float .f64 t467] rfl sqA ?_; (with_reducible refine (weigh_Print.calls k t467 t470 _ ⟨htab.out.below sqB⟩ A10.out).mono ?_); rintro e w16 ⟨rfl, hb⟩; refine ⟨_, rfl, ?_⟩; have n0_ := Aside0.mk (below_step sqB hb); clear HB; have HB := n0_; clear n0_; (try clear hb); (try clear hb2); (try clear hk); (try clear hi)) | ((with_reducible refine gate_callee (f := 19) rfl ?_); refine goesL_ (some 20) rfl rfl Tryd.func19 (by kernel_rfl) rfl #[.string t470] rfl sqA ?_; (with_reducible refine (weigh_Parse.calls k t470 t471 t472 _ A11.out).mono ?_); rintro e w17 ⟨rfl, hb⟩; refine ⟨_, rfl, ?_⟩; have n0_ := Aside0.mk (below_step sqB hb); clear HB; have HB := n0_; clear n0_; (try clear hb); (try clear hb2); (try clear hk); (try clear hi)) | ((with_reducible refine gate_callee (f := 12) rfl ?_); refine goesL_ (some 23) rfl rfl Tryd.func12 (by kernel_rfl) rfl #[] rfl sqA ?_; (with_reducible refine (endonymlaw2_told.calls k  true _ ⟨htab.out.below sqB⟩ A12.out).mono ?_); rintro e w18 ⟨rfl, hb⟩; refine ⟨_, rfl, ?_⟩; have n0_ := Aside0.mk (below_step sqB hb); clear HB; have HB := n0_; clear n0_; (try clear hb); (try clear hb2); (try clear hk); (try clear hi)) | (go_at_call 16; (with_reducible refine (api_Bits.calls t471 t474 _ A15.out).mono ?_); rintro e w' ⟨rfl, ⟨nd, rfl⟩⟩))
   go_ret
   exact ⟨sqE', sqB⟩
  rw [if_neg c14] at H
  have c14b0 := beq_eq_false_iff_ne.mpr c14
  have c14b1 := bne_iff_ne.mpr c14
  obtain rfl := Option.some.inj H
  go_enter Tryd.func6, Tryd.ntmps6
  go_wp2_with (first | ((with_reducible refine gate_callee (f := 11) rfl ?_); refine goesL_ (some 7) rfl rfl Tryd.func11 (by kernel_rfl) rfl #[.int .u64 a0] rfl sqA ?_; (with_reducible refine (api_Float.calls a0 t467 _ A2.out).mono ?_); rintro e w' ⟨rfl, ⟨nd, rfl⟩⟩; refine ⟨_, rfl, ?_⟩) | ((with_reducible refine gate_callee (f := 18) rfl ?_); refine goesL_ (some 19) rfl rfl Tryd.func18 (by kernel_rfl) rfl #[.float .f64 t467] rfl sqA ?_; (with_reducible refine (weigh_Print.calls k t467 t470 _ ⟨htab.out.below sqB⟩ A10.out).mono ?_); rintro e w19 ⟨rfl, hb⟩; refine ⟨_, rfl, ?_⟩; have n0_ := Aside0.mk (below_step sqB hb); clear HB; have HB := n0_; clear n0_; (try clear hb); (try clear hb2); (try clear hk); (try clear hi)) | ((with_reducible refine gate_callee (f := 19) rfl ?_); refine goesL_ (some 20) rfl rfl Tryd.func19 (by kernel_rfl) rfl #[.string t470] rfl sqA ?_; (with_reducible refine (weigh_Parse.calls k t470 t471 t472 _ A11.out).mono ?_); rintro e w20 ⟨rfl, hb⟩; refine ⟨_, rfl, ?_⟩; have n0_ := Aside0.mk (below_step sqB hb); clear HB; have HB := n0_; clear n0_; (try clear hb); (try clear hb2); (try clear hk); (try clear hi)) | ((with_reducible refine gate_callee (f := 12) rfl ?_); refine goesL_ (some 23) rfl rfl Tryd.func12 (by kernel_rfl) rfl #[] rfl sqA ?_; (with_reducible refine (endonymlaw2_told.calls k  true _ ⟨htab.out.below sqB⟩ A12.out).mono ?_); rintro e w21 ⟨rfl, hb⟩; refine ⟨_, rfl, ?_⟩; have n0_ := Aside0.mk (below_step sqB hb); clear HB; have HB := n0_; clear n0_; (try clear hb); (try clear hb2); (try clear hk); (try clear hi)))
  go_ret
  exact ⟨sqE', sqB⟩
 replace c13 := Bool.eq_false_iff.mpr c13
 subst c13
 have H1 : (some false) = some r := by rw [if_neg (show ¬ (false = true) by decide)] at H; exact H
 clear H
 have H := H1
 clear H1
 obtain rfl := Option.some.inj H
 go_enter Tryd.func6, Tryd.ntmps6
 go_wp2_with (first | ((with_reducible refine gate_callee (f := 11) rfl ?_); refine goesL_ (some 7) rfl rfl Tryd.func11 (by kernel_rfl) rfl #[.int .u64 a0] rfl sqA ?_; (with_reducible refine (api_Float.calls a0 t467 _ A2.out).mono ?_); rintro e w' ⟨rfl, ⟨nd, rfl⟩⟩; refine ⟨_, rfl, ?_⟩) | ((with_reducible refine gate_callee (f := 18) rfl ?_); refine goesL_ (some 19) rfl rfl Tryd.func18 (by kernel_rfl) rfl #[.float .f64 t467] rfl sqA ?_; (with_reducible refine (weigh_Print.calls k t467 t470 _ ⟨htab.out.below sqB⟩ A10.out).mono ?_); rintro e w22 ⟨rfl, hb⟩; refine ⟨_, rfl, ?_⟩; have n0_ := Aside0.mk (below_step sqB hb); clear HB; have HB := n0_; clear n0_; (try clear hb); (try clear hb2); (try clear hk); (try clear hi)) | ((with_reducible refine gate_callee (f := 19) rfl ?_); refine goesL_ (some 20) rfl rfl Tryd.func19 (by kernel_rfl) rfl #[.string t470] rfl sqA ?_; (with_reducible refine (weigh_Parse.calls k t470 t471 t472 _ A11.out).mono ?_); rintro e w23 ⟨rfl, hb⟩; refine ⟨_, rfl, ?_⟩; have n0_ := Aside0.mk (below_step sqB hb); clear HB; have HB := n0_; clear n0_; (try clear hb); (try clear hb2); (try clear hk); (try clear hi)) | ((with_reducible refine gate_callee (f := 12) rfl ?_); refine goesL_ (some 23) rfl rfl Tryd.func12 (by kernel_rfl) rfl #[] rfl sqA ?_; (with_reducible refine (endonymlaw2_told.calls k  false _ ⟨htab.out.below sqB⟩ A12.out).mono ?_); rintro e w24 ⟨rfl, hb⟩; refine ⟨_, rfl, ?_⟩; have n0_ := Aside0.mk (below_step sqB hb); clear HB; have HB := n0_; clear n0_; (try clear hb); (try clear hb2); (try clear hk); (try clear hi)))
 go_ret
 exact ⟨sqE', sqB⟩

end Go.Proofs.YtfmjdoofopamkaaDoor.W
