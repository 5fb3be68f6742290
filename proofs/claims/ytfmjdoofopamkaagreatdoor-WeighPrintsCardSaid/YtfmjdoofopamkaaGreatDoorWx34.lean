import Derived.Test.YtfmjdoofopamkaaGreatDoorWx0
import Derived.Test.YtfmjdoofopamkaaGreatDoorWx19
import Derived.Test.YtfmjdoofopamkaaGreatDoorWx22
import Derived.Test.YtfmjdoofopamkaaGreatDoorWx33
namespace Go.Proofs.YtfmjdoofopamkaaGreatDoor.W
open Go.RowKit Go.Proofs.YtfmjdoofopamkaaGreatDoorW.PrintWords Go.Proofs.YtfmjdoofopamkaaGreatDoorW.PrintLast Go.Proofs.YtfmjdoofopamkaaGreatDoorW.PrintMore
set_option maxHeartbeats 8000000
set_option maxRecDepth 100000
attribute [local go_sem] max2_int min2_int max_two min_two max_three min_three max_four min_four
set_option linter.unusedVariables false
set_option linter.unusedSimpArgs false
def endonymlaw2_WeighPrints.f (k : Nat) (a0 : Int) : Option (Bool) := (endonymlaw2_told.f k).bind fun t832 => (if t832 = true then ((api_Float.f a0).bind fun t833 => ((w2_Print.f k t833).bind fun t834 => ((r2_Print.f k a0).bind fun t835 => (some (t834.toList == t835.toList))))) else (some false))
theorem endonymlaw2_WeighPrints.mono : ∀ a0 k, LeO (endonymlaw2_WeighPrints.f k a0) (endonymlaw2_WeighPrints.f (k + 1) a0) := by
 intro a0 k
 unfold endonymlaw2_WeighPrints.f
 repeat' first | (with_reducible first | apply endonymlaw2_told.mono | apply r2_Print.mono | apply w2_Print.mono | apply LeO.refl | apply LeO.none | refine LeO.ite ?_ ?_ | refine LeO.bind ?_ (fun _ => ?_)) | apply LeO.none | refine LeO.ite ?_ ?_ | refine LeO.bind ?_ (fun _ => ?_)
theorem endonymlaw2_WeighPrints.calls (k : Nat) (a0 : Int) (r : Bool) (w : World) (htab : Sd (Rm.Tab w)) (h : endonymlaw2_WeighPrints.f k a0 = some r) :
  Calls Tryz.prog 4 #[.int .u64 a0] w fun e w' => e = .returned (.bool r) ∧ Below w.heap.size w w' := by
 have HB := Sd.mk (Below.refl w.heap.size w)
 have H : ((endonymlaw2_told.f k).bind fun t832 => (if t832 = true then ((api_Float.f a0).bind fun t833 => ((w2_Print.f k t833).bind fun t834 => ((r2_Print.f k a0).bind fun t835 => (some (t834.toList == t835.toList))))) else (some false))) = some r := h
 clear h
 obtain ⟨t832, A2, H⟩ := sqO H
 try dsimp only at H
 by_cases c3 : t832 = true
 case neg =>
  replace c3 := Bool.eq_false_iff.mpr c3
  subst c3
  have H1 : (some false) = some r := by rw [if_neg (show ¬ (false = true) by decide)] at H; exact H
  clear H
  have H := H1
  clear H1
  obtain rfl := Option.some.inj H
  go_enter Tryz.func4, Tryz.ntmps4
  go_wp2_with (first | ((with_reducible refine gcl (f := 9) rfl ?_); refine gL (some 3) rfl rfl Tryz.func9 (by kernel_rfl) rfl #[] rfl sqA ?_; (with_reducible refine (endonymlaw2_told.calls k  false _ ⟨htab.out.below sqB⟩ A2.out).mono ?_); rintro e w10 ⟨rfl, hb⟩; refine ⟨_, rfl, ?_⟩; have n0_ := Sd.mk (bst sqB hb); clear HB; have HB := n0_; clear n0_; (try clear hb); (try clear hb2); (try clear hk); (try clear hi)))
  go_ret
  exact ⟨sqE', sqB⟩
 subst c3
 have H1 : ((api_Float.f a0).bind fun t833 => ((w2_Print.f k t833).bind fun t834 => ((r2_Print.f k a0).bind fun t835 => (some (t834.toList == t835.toList))))) = some r := by rw [if_pos rfl] at H; exact H
 clear H
 have H := H1
 clear H1
 obtain ⟨t833, A4, H⟩ := sqO H
 try dsimp only at H
 obtain ⟨t834, A5, H⟩ := sqO H
 try dsimp only at H
 obtain ⟨t835, A6, H⟩ := sqO H
 try dsimp only at H
 obtain rfl := Option.some.inj H
 go_enter Tryz.func4, Tryz.ntmps4
 go_wp2_with (first | ((with_reducible refine gcl (f := 9) rfl ?_); refine gL (some 3) rfl rfl Tryz.func9 (by kernel_rfl) rfl #[] rfl sqA ?_; (with_reducible refine (endonymlaw2_told.calls k  true _ ⟨htab.out.below sqB⟩ A2.out).mono ?_); rintro e w7 ⟨rfl, hb⟩; refine ⟨_, rfl, ?_⟩; have n0_ := Sd.mk (bst sqB hb); clear HB; have HB := n0_; clear n0_; (try clear hb); (try clear hb2); (try clear hk); (try clear hi)) | (go_at_call 12; (with_reducible refine (api_Float.calls a0 t833 _ A4.out).mono ?_); rintro e w' ⟨rfl, ⟨nd, rfl⟩⟩) | (go_at_call 11; (with_reducible refine (w2_Print.calls k t833 t834 _ ⟨htab.out.below sqB⟩ A5.out).mono ?_); rintro e w8 ⟨rfl, hb⟩; have n0_ := Sd.mk (bst sqB hb); clear HB; have HB := n0_; clear n0_; (try clear hb); (try clear hb2); (try clear hk); (try clear hi)) | (go_at_call 13; (with_reducible refine (r2_Print.calls k a0 t835 _ A6.out).mono ?_); rintro e w9 ⟨rfl, hb⟩; have n0_ := Sd.mk (bst sqB hb); clear HB; have HB := n0_; clear n0_; (try clear hb); (try clear hb2); (try clear hk); (try clear hi)))
 go_ret
 exact ⟨sqE', sqB⟩
end Go.Proofs.YtfmjdoofopamkaaGreatDoor.W
