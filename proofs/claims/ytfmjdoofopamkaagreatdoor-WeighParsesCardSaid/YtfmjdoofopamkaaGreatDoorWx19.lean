-- written by wip/pp.py of this session (the kit's print with patches); checked by Lean alone
import Derived.Test.YtfmjdoofopamkaaGreatDoorWx0
import Derived.Test.YtfmjdoofopamkaaGreatDoorWx6
import Derived.Test.YtfmjdoofopamkaaGreatDoorWx13
import Derived.Test.YtfmjdoofopamkaaGreatDoorWx18
namespace Go.Proofs.YtfmjdoofopamkaaGreatDoor.W
open Go.RowKit Go.Proofs.YtfmjdoofopamkaaGreatDoorW.PrintWords Go.Proofs.YtfmjdoofopamkaaGreatDoorW.PrintLast Go.Proofs.YtfmjdoofopamkaaGreatDoorW.PrintMore
attribute [local go_sem] max2_int min2_int max_two min_two max_three min_three max_four min_four   -- for this text's walks alone
set_option linter.unusedVariables false
set_option linter.unusedSimpArgs false

/-! ### endonymlaw2_WeighParses: function 3 -/
def endonymlaw2_WeighParses.f (k : Nat) (a0 : ByteArray) : Option (Bool) := (weigh_Parse.f k a0).bind fun bt680 => ((endonymref2_Parse.f k a0).bind fun bt682 => ((endonymlaw2_told.f k).bind fun t684 => (if t684 = true then (if bt680.2 = bt682.2 then ((api_Bits.f bt680.1).bind fun t685 => (some (t685 == bt682.1))) else (some false)) else (some false))))
theorem endonymlaw2_WeighParses.mono : ∀ a0 k, LeO (endonymlaw2_WeighParses.f k a0) (endonymlaw2_WeighParses.f (k + 1) a0) := by
 intro a0 k
 unfold endonymlaw2_WeighParses.f
 repeat' first | (with_reducible first | apply endonymlaw2_told.mono | apply endonymref2_Parse.mono | apply weigh_Parse.mono | apply LeO.refl | apply LeO.none | refine LeO.ite ?_ ?_ | refine LeO.bind ?_ (fun _ => ?_)) | apply endonymlaw2_told.mono | apply endonymref2_Parse.mono | apply weigh_Parse.mono | apply LeO.none | refine LeO.ite ?_ ?_ | refine LeO.bind ?_ (fun _ => ?_)
set_option maxHeartbeats 8000000 in
set_option maxRecDepth 100000 in
theorem endonymlaw2_WeighParses.calls (k : Nat) (a0 : ByteArray) (r : Bool) (w : World) (htab : Aside0 (Rm.Tab w)) (h : endonymlaw2_WeighParses.f k a0 = some r) :
  Calls Tryz.prog 3 #[.string a0] w fun e w' => e = .returned (.bool r) ∧ Below w.heap.size w w' := by
 have HB := Aside0.mk (Below.refl w.heap.size w)
 have H : ((weigh_Parse.f k a0).bind fun bt680 => ((endonymref2_Parse.f k a0).bind fun bt682 => ((endonymlaw2_told.f k).bind fun t684 => (if t684 = true then (if bt680.2 = bt682.2 then ((api_Bits.f bt680.1).bind fun t685 => (some (t685 == bt682.1))) else (some false)) else (some false))))) = some r := h
 clear h
 replace H := Option.bind_eq_some_iff.mp H
 obtain ⟨⟨t680, t681⟩, A20, H⟩ := H
 try dsimp only at H
 have A2 := Aside0.mk A20
 clear A20
 replace H := Option.bind_eq_some_iff.mp H
 obtain ⟨⟨t682, t683⟩, A30, H⟩ := H
 try dsimp only at H
 have A3 := Aside0.mk A30
 clear A30
 replace H := Option.bind_eq_some_iff.mp H
 obtain ⟨t684, A40, H⟩ := H
 try dsimp only at H
 have A4 := Aside0.mk A40
 clear A40
 by_cases c5 : t684 = true
 ·subst c5
  have H1 : (if t681 = t683 then ((api_Bits.f t680).bind fun t685 => (some (t685 == t682))) else (some false)) = some r := by rw [if_pos rfl] at H; exact H
  clear H
  have H := H1
  clear H1
  by_cases c6 : t681 = t683
  ·rw [if_pos c6] at H
   have c6b0 := beq_iff_eq.mpr c6
   have c6b1 := bne_eq_false_iff_eq.mpr c6
   clear c6
   replace H := Option.bind_eq_some_iff.mp H
   obtain ⟨t685, A70, H⟩ := H
   try dsimp only at H
   have A7 := Aside0.mk A70
   clear A70
   obtain rfl := Option.some.inj H
   go_enter Tryz.func3, Tryz.ntmps3
   go_wp2_with (first | ((with_reducible refine gate_callee (f := 7) rfl ?_); refine goesL_ (some 9) rfl rfl Tryz.func7 (by kernel_rfl) rfl #[.string a0] rfl sqA ?_; (with_reducible refine (weigh_Parse.calls k a0 t680 t681 _ A2.out).mono ?_); rintro e w8 ⟨rfl, hb⟩; refine ⟨_, rfl, ?_⟩; have n0_ := Aside0.mk (below_step sqB hb); clear HB; have HB := n0_; clear n0_; (try clear hb); (try clear hb2); (try clear hk); (try clear hi)) | ((with_reducible refine gate_callee (f := 8) rfl ?_); refine goesL_ (some 14) rfl rfl Tryz.func8 (by kernel_rfl) rfl #[.string a0] rfl sqA ?_; (with_reducible refine (endonymref2_Parse.calls k a0 t682 t683 _ A3.out).mono ?_); rintro e w9 ⟨rfl, hb⟩; refine ⟨_, rfl, ?_⟩; have n0_ := Aside0.mk (below_step sqB hb); clear HB; have HB := n0_; clear n0_; (try clear hb); (try clear hb2); (try clear hk); (try clear hi)) | ((with_reducible refine gate_callee (f := 9) rfl ?_); refine goesL_ (some 17) rfl rfl Tryz.func9 (by kernel_rfl) rfl #[] rfl sqA ?_; (with_reducible refine (endonymlaw2_told.calls k  true _ ⟨htab.out.below sqB⟩ A4.out).mono ?_); rintro e w10 ⟨rfl, hb⟩; refine ⟨_, rfl, ?_⟩; have n0_ := Aside0.mk (below_step sqB hb); clear HB; have HB := n0_; clear n0_; (try clear hb); (try clear hb2); (try clear hk); (try clear hi)) | (go_at_call 10; (with_reducible refine (api_Bits.calls t680 t685 _ A7.out).mono ?_); rintro e w' ⟨rfl, ⟨nd, rfl⟩⟩))
   go_ret
   exact ⟨sqE', sqB⟩
  rw [if_neg c6] at H
  have c6b0 := beq_eq_false_iff_ne.mpr c6
  have c6b1 := bne_iff_ne.mpr c6
  obtain rfl := Option.some.inj H
  go_enter Tryz.func3, Tryz.ntmps3
  go_wp2_with (first | ((with_reducible refine gate_callee (f := 7) rfl ?_); refine goesL_ (some 9) rfl rfl Tryz.func7 (by kernel_rfl) rfl #[.string a0] rfl sqA ?_; (with_reducible refine (weigh_Parse.calls k a0 t680 t681 _ A2.out).mono ?_); rintro e w11 ⟨rfl, hb⟩; refine ⟨_, rfl, ?_⟩; have n0_ := Aside0.mk (below_step sqB hb); clear HB; have HB := n0_; clear n0_; (try clear hb); (try clear hb2); (try clear hk); (try clear hi)) | ((with_reducible refine gate_callee (f := 8) rfl ?_); refine goesL_ (some 14) rfl rfl Tryz.func8 (by kernel_rfl) rfl #[.string a0] rfl sqA ?_; (with_reducible refine (endonymref2_Parse.calls k a0 t682 t683 _ A3.out).mono ?_); rintro e w12 ⟨rfl, hb⟩; refine ⟨_, rfl, ?_⟩; have n0_ := Aside0.mk (below_step sqB hb); clear HB; have HB := n0_; clear n0_; (try clear hb); (try clear hb2); (try clear hk); (try clear hi)) | ((with_reducible refine gate_callee (f := 9) rfl ?_); refine goesL_ (some 17) rfl rfl Tryz.func9 (by kernel_rfl) rfl #[] rfl sqA ?_; (with_reducible refine (endonymlaw2_told.calls k  true _ ⟨htab.out.below sqB⟩ A4.out).mono ?_); rintro e w13 ⟨rfl, hb⟩; refine ⟨_, rfl, ?_⟩; have n0_ := Aside0.mk (below_step sqB hb); clear HB; have HB := n0_; clear n0_; (try clear hb); (try clear hb2); (try clear hk); (try clear hi)))
  go_ret
  exact ⟨sqE', sqB⟩
 replace c5 := Bool.eq_false_iff.mpr c5
 subst c5
 have H1 : (some false) = some r := by rw [if_neg (show ¬ (false = true) by decide)] at H; exact H
 clear H
 have H := H1
 clear H1
 obtain rfl := Option.some.inj H
 go_enter Tryz.func3, Tryz.ntmps3
 go_wp2_with (first | ((with_reducible refine gate_callee (f := 7) rfl ?_); refine goesL_ (some 9) rfl rfl Tryz.func7 (by kernel_rfl) rfl #[.string a0] rfl sqA ?_; (with_reducible refine (weigh_Parse.calls k a0 t680 t681 _ A2.out).mono ?_); rintro e w14 ⟨rfl, hb⟩; refine ⟨_, rfl, ?_⟩; have n0_ := Aside0.mk (below_step sqB hb); clear HB; have HB := n0_; clear n0_; (try clear hb); (try clear hb2); (try clear hk); (try clear hi)) | ((with_reducible refine gate_callee (f := 8) rfl ?_); refine goesL_ (some 14) rfl rfl Tryz.func8 (by kernel_rfl) rfl #[.string a0] rfl sqA ?_; (with_reducible refine (endonymref2_Parse.calls k a0 t682 t683 _ A3.out).mono ?_); rintro e w15 ⟨rfl, hb⟩; refine ⟨_, rfl, ?_⟩; have n0_ := Aside0.mk (below_step sqB hb); clear HB; have HB := n0_; clear n0_; (try clear hb); (try clear hb2); (try clear hk); (try clear hi)) | ((with_reducible refine gate_callee (f := 9) rfl ?_); refine goesL_ (some 17) rfl rfl Tryz.func9 (by kernel_rfl) rfl #[] rfl sqA ?_; (with_reducible refine (endonymlaw2_told.calls k  false _ ⟨htab.out.below sqB⟩ A4.out).mono ?_); rintro e w16 ⟨rfl, hb⟩; refine ⟨_, rfl, ?_⟩; have n0_ := Aside0.mk (below_step sqB hb); clear HB; have HB := n0_; clear n0_; (try clear hb); (try clear hb2); (try clear hk); (try clear hi)))
 go_ret
 exact ⟨sqE', sqB⟩

end Go.Proofs.YtfmjdoofopamkaaGreatDoor.W
