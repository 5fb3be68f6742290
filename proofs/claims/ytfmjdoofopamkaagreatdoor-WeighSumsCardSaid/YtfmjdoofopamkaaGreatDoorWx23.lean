import Derived.Test.YtfmjdoofopamkaaGreatDoorWx0
import Derived.Test.YtfmjdoofopamkaaGreatDoorWx14
import Derived.Test.YtfmjdoofopamkaaGreatDoorWx19
import Derived.Test.YtfmjdoofopamkaaGreatDoorWx22
namespace Go.Proofs.YtfmjdoofopamkaaGreatDoor.W
open Go.RowKit Go.Proofs.YtfmjdoofopamkaaGreatDoorW.PrintWords Go.Proofs.YtfmjdoofopamkaaGreatDoorW.PrintLast Go.Proofs.YtfmjdoofopamkaaGreatDoorW.PrintMore
set_option maxHeartbeats 8000000
set_option maxRecDepth 100000
attribute [local go_sem] max2_int min2_int max_two min_two max_three min_three max_four min_four
set_option linter.unusedVariables false
set_option linter.unusedSimpArgs false
def endonymref2_Exact.f (k : Nat) (l0 : List Int) : Option (Int) := (endonymref2_odd.f k l0).bind fun bt707 => (if bt707.2 = true then (some bt707.1) else ((endonymref2_Total.f k l0).bind fun bt709 => ((endonymref2_rounded.f k bt709.1 bt709.2 1).bind fun t713 => (some t713))))
theorem endonymref2_Exact.mono : ∀ a0 k, LeO (endonymref2_Exact.f k a0) (endonymref2_Exact.f (k + 1) a0) := by
 intro a0 k
 unfold endonymref2_Exact.f
 repeat' first | (with_reducible first | apply endonymref2_Total.mono | apply endonymref2_odd.mono | apply endonymref2_rounded.mono | apply LeO.refl | apply LeO.none | refine LeO.ite ?_ ?_ | refine LeO.bind ?_ (fun _ => ?_)) | apply LeO.none | refine LeO.ite ?_ ?_ | refine LeO.bind ?_ (fun _ => ?_)
theorem endonymref2_Exact.calls (k : Nat) (A0 : Option Addr) (c0 : Nat) (l0 : List Int) (r : Int) (w : World) (hr0 : Kd.C (Kd.int .u64) w A0 l0.length l0) (hc0 : l0.length ≤ c0) (h : endonymref2_Exact.f k l0 = some r) :
  Calls Tryz.prog 21 #[.slice A0 l0.length c0] w fun e w' => e = .returned (.int .u64 r) ∧ Below w.heap.size w w' := by
 have HR0 := Aside0.mk hr0
 have HC0 := Aside0.mk hc0
 clear hr0 hc0
 have HB := Aside0.mk (Below.refl w.heap.size w)
 have H : ((endonymref2_odd.f k l0).bind fun bt707 => (if bt707.2 = true then (some bt707.1) else ((endonymref2_Total.f k l0).bind fun bt709 => ((endonymref2_rounded.f k bt709.1 bt709.2 1).bind fun t713 => (some t713))))) = some r := h
 clear h
 obtain ⟨⟨t707, t708⟩, A2, H⟩ := sqO H
 try dsimp only at H
 by_cases c3 : t708 = true
 ·subst c3
  have H1 : (some t707) = some r := by rw [if_pos rfl] at H; exact H
  clear H
  have H := H1
  clear H1
  obtain rfl := Option.some.inj H
  go_enter Tryz.func21, Tryz.ntmps21
  go_wp2_with (first | ((with_reducible refine gate_callee (f := 47) rfl ?_); refine goesL_ (some 7) rfl rfl Tryz.func47 (by kernel_rfl) rfl #[.slice A0 l0.length c0] rfl sqA ?_; (with_reducible refine (endonymref2_odd.calls k _ _ l0 t707 true _ ?side1 ?side2 A2.out).mono ?_); (case side1 => repeat (first | exact HR0.out | (with_reducible refine Kd.C_alloc ?_ _) | (with_reducible refine Kd.C_drewN ?_ _) | (with_reducible refine Kd.C_drew ?_))); (case side2 => exact HC0.out); rintro e w' ⟨rfl, ⟨nd, rfl⟩⟩; refine ⟨_, rfl, ?_⟩))
  go_ret
  exact ⟨sqE', sqB⟩
 replace c3 := Bool.eq_false_iff.mpr c3
 subst c3
 have H1 : ((endonymref2_Total.f k l0).bind fun bt709 => ((endonymref2_rounded.f k bt709.1 bt709.2 1).bind fun t713 => (some t713))) = some r := by rw [if_neg (show ¬ (false = true) by decide)] at H; exact H
 clear H
 have H := H1
 clear H1
 obtain ⟨⟨t709, t710⟩, A4, H⟩ := sqO H
 try dsimp only at H
 obtain ⟨t713, A5, H⟩ := sqO H
 try dsimp only at H
 obtain rfl := Option.some.inj H
 go_enter Tryz.func21, Tryz.ntmps21
 go_wp2_with (first | ((with_reducible refine gate_callee (f := 47) rfl ?_); refine goesL_ (some 7) rfl rfl Tryz.func47 (by kernel_rfl) rfl #[.slice A0 l0.length c0] rfl sqA ?_; (with_reducible refine (endonymref2_odd.calls k _ _ l0 t707 false _ ?side1 ?side2 A2.out).mono ?_); (case side1 => repeat (first | exact HR0.out | (with_reducible refine Kd.C_alloc ?_ _) | (with_reducible refine Kd.C_drewN ?_ _) | (with_reducible refine Kd.C_drew ?_))); (case side2 => exact HC0.out); rintro e w' ⟨rfl, ⟨nd, rfl⟩⟩; refine ⟨_, rfl, ?_⟩) | ((with_reducible refine gate_callee (f := 49) rfl ?_); refine goesL_ (some 13) rfl rfl Tryz.func49 (by kernel_rfl) rfl #[.slice A0 l0.length c0] rfl sqA ?_; (with_reducible refine (endonymref2_Total.calls k _ _ l0 t709 t710 _ ?side1 ?side2 A4.out).mono ?_); (case side1 => repeat (first | exact HR0.out | (with_reducible refine Kd.C_alloc ?_ _) | (with_reducible refine Kd.C_drewN ?_ _) | (with_reducible refine Kd.C_drew ?_))); (case side2 => exact HC0.out); rintro e w6 ⟨v711, rfl, ho0, hb⟩; refine ⟨_, rfl, ?_⟩; have n0_ := Aside0.mk (Kd.R_lower ho0 (below_size sqB)); have n1_ := Aside0.mk (below_step sqB hb); clear HB; have HO712 := n0_; have HB := n1_; clear n0_ n1_; (try clear hb); (try clear hb2); (try clear hk); (try clear hi); (try clear ho0); obtain ⟨Ao7, co7, eo7⟩ := Kd.R_slice HO712.out; subst eo7) | ((with_reducible refine gate_callee (f := 48) rfl ?_); refine goesL_ (some 14) rfl rfl Tryz.func48 (by kernel_rfl) rfl #[.agg #[.bool t709, .slice Ao7 t710.length co7], .int .i64 1] rfl sqA ?_; (with_reducible refine (endonymref2_rounded.calls k t709 _ _ t710 1 t713 _ ?side1 ?side2 A5.out).mono ?_); (case side1 => repeat (first | exact (Kd.R_reads' HO712.out).2.2 | (with_reducible refine Kd.C_alloc ?_ _) | (with_reducible refine Kd.C_drewN ?_ _) | (with_reducible refine Kd.C_drew ?_))); (case side2 => exact (Kd.R_reads' HO712.out).2.1); rintro e w8 ⟨rfl, hb⟩; refine ⟨_, rfl, ?_⟩; have n0_ := Aside0.mk (Kd.R_below (sqR HO712.out) hb); have n1_ := Aside0.mk (below_step sqB hb); clear HO712; clear HB; have HO712 := n0_; have HB := n1_; clear n0_ n1_; (try clear hb); (try clear hb2); (try clear hk); (try clear hi)))
 go_ret
 exact ⟨sqE', sqB⟩
end Go.Proofs.YtfmjdoofopamkaaGreatDoor.W
