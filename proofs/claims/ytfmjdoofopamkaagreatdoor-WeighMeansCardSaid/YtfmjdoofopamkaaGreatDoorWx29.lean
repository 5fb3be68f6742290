-- written by wip/pp.py of this session (the kit's print with patches); checked by Lean alone
import Derived.Test.YtfmjdoofopamkaaGreatDoorWx0
import Derived.Test.YtfmjdoofopamkaaGreatDoorWx21
import Derived.Test.YtfmjdoofopamkaaGreatDoorWx22
import Derived.Test.YtfmjdoofopamkaaGreatDoorWx24
import Derived.Test.YtfmjdoofopamkaaGreatDoorWx28
namespace Go.Proofs.YtfmjdoofopamkaaGreatDoor.W
open Go.RowKit Go.Proofs.YtfmjdoofopamkaaGreatDoorW.PrintWords Go.Proofs.YtfmjdoofopamkaaGreatDoorW.PrintLast Go.Proofs.YtfmjdoofopamkaaGreatDoorW.PrintMore
attribute [local go_sem] max2_int min2_int max_two min_two max_three min_three max_four min_four   -- for this text's walks alone
set_option linter.unusedVariables false
set_option linter.unusedSimpArgs false

/-! ### endonymlaw2_WeighMeans: function 6 -/
def endonymlaw2_WeighMeans.f (k : Nat) (l0 : List Int) : Option (Bool) := (endonymlaw2_floats.f k l0 60).bind fun bt748 => ((weigh_Mean.f k bt748.1).bind fun bt754 => ((endonymref2_Mean.f k bt748.2).bind fun bt756 => ((endonymlaw2_told.f k).bind fun t758 => (if t758 = true then (if (bt754.2 == bt756.2) = true then ((api_Bits.f bt754.1).bind fun t759 => (some (t759 == bt756.1))) else (some false)) else (some false)))))
theorem endonymlaw2_WeighMeans.mono : ∀ a0 k, LeO (endonymlaw2_WeighMeans.f k a0) (endonymlaw2_WeighMeans.f (k + 1) a0) := by
 intro a0 k
 unfold endonymlaw2_WeighMeans.f
 repeat' first | (with_reducible first | apply endonymlaw2_floats.mono | apply endonymlaw2_told.mono | apply endonymref2_Mean.mono | apply weigh_Mean.mono | apply LeO.refl | apply LeO.none | refine LeO.ite ?_ ?_ | refine LeO.bind ?_ (fun _ => ?_)) | apply endonymlaw2_floats.mono | apply endonymlaw2_told.mono | apply endonymref2_Mean.mono | apply weigh_Mean.mono | apply LeO.none | refine LeO.ite ?_ ?_ | refine LeO.bind ?_ (fun _ => ?_)
set_option maxHeartbeats 8000000 in
set_option maxRecDepth 100000 in
theorem endonymlaw2_WeighMeans.calls (k : Nat) (A0 : Option Addr) (c0 : Nat) (l0 : List Int) (r : Bool) (w : World) (htab : Aside0 (Rm.Tab w)) (hr0 : Kd.C (Kd.int .u64) w A0 l0.length l0) (hc0 : l0.length ≤ c0) (h : endonymlaw2_WeighMeans.f k l0 = some r) :
  Calls Tryz.prog 6 #[.slice A0 l0.length c0] w fun e w' => e = .returned (.bool r) ∧ Below w.heap.size w w' := by
 have HR0 := Aside0.mk hr0
 have HC0 := Aside0.mk hc0
 clear hr0 hc0
 have HB := Aside0.mk (Below.refl w.heap.size w)
 have H : ((endonymlaw2_floats.f k l0 60).bind fun bt748 => ((weigh_Mean.f k bt748.1).bind fun bt754 => ((endonymref2_Mean.f k bt748.2).bind fun bt756 => ((endonymlaw2_told.f k).bind fun t758 => (if t758 = true then (if (bt754.2 == bt756.2) = true then ((api_Bits.f bt754.1).bind fun t759 => (some (t759 == bt756.1))) else (some false)) else (some false)))))) = some r := h
 clear h
 replace H := Option.bind_eq_some_iff.mp H
 obtain ⟨⟨t748, t749⟩, A20, H⟩ := H
 try dsimp only at H
 have A2 := Aside0.mk A20
 clear A20
 replace H := Option.bind_eq_some_iff.mp H
 obtain ⟨⟨t754, t755⟩, A30, H⟩ := H
 try dsimp only at H
 have A3 := Aside0.mk A30
 clear A30
 replace H := Option.bind_eq_some_iff.mp H
 obtain ⟨⟨t756, t757⟩, A40, H⟩ := H
 try dsimp only at H
 have A4 := Aside0.mk A40
 clear A40
 replace H := Option.bind_eq_some_iff.mp H
 obtain ⟨t758, A50, H⟩ := H
 try dsimp only at H
 have A5 := Aside0.mk A50
 clear A50
 by_cases c6 : t758 = true
 ·subst c6
  have H1 : (if (t755 == t757) = true then ((api_Bits.f t754).bind fun t759 => (some (t759 == t756))) else (some false)) = some r := by rw [if_pos rfl] at H; exact H
  clear H
  have H := H1
  clear H1
  by_cases c7 : (t755 == t757) = true
  ·rw [if_pos c7] at H
   have c7b0 : (t755 == t757) = true := c7
   (try (have c7b1 : decide (t755 = t757) = true := by simpa using c7))
   (try (have c7b2 : (t755 == t757) = true := by simpa using c7))
   clear c7
   replace H := Option.bind_eq_some_iff.mp H
   obtain ⟨t759, A80, H⟩ := H
   try dsimp only at H
   have A8 := Aside0.mk A80
   clear A80
   obtain rfl := Option.some.inj H
   go_enter Tryz.func6, Tryz.ntmps6
   go_wp2_with (first | ((with_reducible refine gate_callee (f := 14) rfl ?_); refine goesL_ (some 11) rfl rfl Tryz.func14 (by kernel_rfl) rfl #[.slice A0 l0.length c0, .int .i64 60] rfl sqA ?_; (with_reducible refine (endonymlaw2_floats.calls k _ _ l0 60 t748 t749 _ ?side1 ?side2 A2.out).mono ?_); (case side1 => repeat (first | exact HR0.out | (with_reducible refine Kd.C_alloc ?_ _) | (with_reducible refine Kd.C_drewN ?_ _) | (with_reducible refine Kd.C_drew ?_))); (case side2 => exact HC0.out); rintro e w9 ⟨v750, v752, rfl, ho0, ho1, hb⟩; refine ⟨_, rfl, ?_⟩; have n0_ := Aside0.mk (Kd.R_lower ho0 (below_size sqB)); have n1_ := Aside0.mk (Kd.R_lower ho1 (below_size sqB)); have n2_ := Aside0.mk (below_step sqB hb); clear HB; have HO751 := n0_; have HO753 := n1_; have HB := n2_; clear n0_ n1_ n2_; (try clear hb); (try clear hb2); (try clear hk); (try clear hi); (try clear ho0); (try clear ho1); obtain ⟨Ao10, co10, eo10⟩ := Kd.R_slice HO751.out; subst eo10) | ((with_reducible refine gate_callee (f := 22) rfl ?_); refine goesL_ (some 16) rfl rfl Tryz.func22 (by kernel_rfl) rfl #[.slice Ao10 t748.length co10] rfl sqA ?_; (with_reducible refine (weigh_Mean.calls k _ _ t748 t754 t755 _ ?side1 ?side2 A3.out).mono ?_); (case side1 => repeat (first | exact (Kd.R_reads' HO751.out).2.2 | (with_reducible refine Kd.C_alloc ?_ _) | (with_reducible refine Kd.C_drewN ?_ _) | (with_reducible refine Kd.C_drew ?_))); (case side2 => exact (Kd.R_reads' HO751.out).2.1); rintro e w11 ⟨rfl, hb⟩; refine ⟨_, rfl, ?_⟩; have n0_ := Aside0.mk (Kd.R_below (sqR HO751.out) hb); have n1_ := Aside0.mk (Kd.R_below (sqR HO753.out) hb); have n2_ := Aside0.mk (below_step sqB hb); clear HO751; clear HO753; clear HB; have HO751 := n0_; have HO753 := n1_; have HB := n2_; clear n0_ n1_ n2_; (try clear hb); (try clear hb2); (try clear hk); (try clear hi); obtain ⟨Ao12, co12, eo12⟩ := Kd.R_slice HO753.out; subst eo12) | ((with_reducible refine gate_callee (f := 23) rfl ?_); refine goesL_ (some 21) rfl rfl Tryz.func23 (by kernel_rfl) rfl #[.slice Ao12 t749.length co12] rfl sqA ?_; (with_reducible refine (endonymref2_Mean.calls k _ _ t749 t756 t757 _ ?side1 ?side2 A4.out).mono ?_); (case side1 => repeat (first | exact (Kd.R_reads' HO753.out).2.2 | (with_reducible refine Kd.C_alloc ?_ _) | (with_reducible refine Kd.C_drewN ?_ _) | (with_reducible refine Kd.C_drew ?_))); (case side2 => exact (Kd.R_reads' HO753.out).2.1); rintro e w13 ⟨rfl, hb⟩; refine ⟨_, rfl, ?_⟩; have n0_ := Aside0.mk (Kd.R_below (sqR HO751.out) hb); have n1_ := Aside0.mk (Kd.R_below (sqR HO753.out) hb); have n2_ := Aside0.mk (below_step sqB hb); clear HO751; clear HO753; clear HB; have HO751 := n0_; have HO753 := n1_; have HB := n2_; clear n0_ n1_ n2_; (try clear hb); (try clear hb2); (try clear hk); (try clear hi)) | ((with_reducible refine gate_callee (f := 9) rfl ?_); refine goesL_ (some 24) rfl rfl Tryz.func9 (by kernel_rfl) rfl #[] rfl sqA ?_; (with_reducible refine (endonymlaw2_told.calls k  true _ ⟨htab.out.below sqB⟩ A5.out).mono ?_); rintro e w14 ⟨rfl, hb⟩; refine ⟨_, rfl, ?_⟩; have n0_ := Aside0.mk (Kd.R_below (sqR HO751.out) hb); have n1_ := Aside0.mk (Kd.R_below (sqR HO753.out) hb); have n2_ := Aside0.mk (below_step sqB hb); clear HO751; clear HO753; clear HB; have HO751 := n0_; have HO753 := n1_; have HB := n2_; clear n0_ n1_ n2_; (try clear hb); (try clear hb2); (try clear hk); (try clear hi)) | (go_at_call 10; (with_reducible refine (api_Bits.calls t754 t759 _ A8.out).mono ?_); rintro e w' ⟨rfl, ⟨nd, rfl⟩⟩))
   go_ret
   exact ⟨sqE', sqB⟩
  rw [if_neg c7] at H
  have c7b0 : (t755 == t757) = false := by simpa using c7
  (try (have c7b1 : decide (t755 = t757) = false := by simpa using c7))
  (try (have c7b2 : (t755 == t757) = false := by simpa using c7))
  (try (have c7b3 : ¬ (t755 = t757) := by simpa using c7))
  clear c7
  obtain rfl := Option.some.inj H
  go_enter Tryz.func6, Tryz.ntmps6
  go_wp2_with (first | ((with_reducible refine gate_callee (f := 14) rfl ?_); refine goesL_ (some 11) rfl rfl Tryz.func14 (by kernel_rfl) rfl #[.slice A0 l0.length c0, .int .i64 60] rfl sqA ?_; (with_reducible refine (endonymlaw2_floats.calls k _ _ l0 60 t748 t749 _ ?side1 ?side2 A2.out).mono ?_); (case side1 => repeat (first | exact HR0.out | (with_reducible refine Kd.C_alloc ?_ _) | (with_reducible refine Kd.C_drewN ?_ _) | (with_reducible refine Kd.C_drew ?_))); (case side2 => exact HC0.out); rintro e w15 ⟨v750, v752, rfl, ho0, ho1, hb⟩; refine ⟨_, rfl, ?_⟩; have n0_ := Aside0.mk (Kd.R_lower ho0 (below_size sqB)); have n1_ := Aside0.mk (Kd.R_lower ho1 (below_size sqB)); have n2_ := Aside0.mk (below_step sqB hb); clear HB; have HO751 := n0_; have HO753 := n1_; have HB := n2_; clear n0_ n1_ n2_; (try clear hb); (try clear hb2); (try clear hk); (try clear hi); (try clear ho0); (try clear ho1); obtain ⟨Ao16, co16, eo16⟩ := Kd.R_slice HO751.out; subst eo16) | ((with_reducible refine gate_callee (f := 22) rfl ?_); refine goesL_ (some 16) rfl rfl Tryz.func22 (by kernel_rfl) rfl #[.slice Ao16 t748.length co16] rfl sqA ?_; (with_reducible refine (weigh_Mean.calls k _ _ t748 t754 t755 _ ?side1 ?side2 A3.out).mono ?_); (case side1 => repeat (first | exact (Kd.R_reads' HO751.out).2.2 | (with_reducible refine Kd.C_alloc ?_ _) | (with_reducible refine Kd.C_drewN ?_ _) | (with_reducible refine Kd.C_drew ?_))); (case side2 => exact (Kd.R_reads' HO751.out).2.1); rintro e w17 ⟨rfl, hb⟩; refine ⟨_, rfl, ?_⟩; have n0_ := Aside0.mk (Kd.R_below (sqR HO751.out) hb); have n1_ := Aside0.mk (Kd.R_below (sqR HO753.out) hb); have n2_ := Aside0.mk (below_step sqB hb); clear HO751; clear HO753; clear HB; have HO751 := n0_; have HO753 := n1_; have HB := n2_; clear n0_ n1_ n2_; (try clear hb); (try clear hb2); (try clear hk); (try clear hi); obtain ⟨Ao18, co18, eo18⟩ := Kd.R_slice HO753.out; subst eo18) | ((with_reducible refine gate_callee (f := 23) rfl ?_); refine goesL_ (some 21) rfl rfl Tryz.func23 (by kernel_rfl) rfl #[.slice Ao18 t749.length co18] rfl sqA ?_; (with_reducible refine (endonymref2_Mean.calls k _ _ t749 t756 t757 _ ?side1 ?side2 A4.out).mono ?_); (case side1 => repeat (first | exact (Kd.R_reads' HO753.out).2.2 | (with_reducible refine Kd.C_alloc ?_ _) | (with_reducible refine Kd.C_drewN ?_ _) | (with_reducible refine Kd.C_drew ?_))); (case side2 => exact (Kd.R_reads' HO753.out).2.1); rintro e w19 ⟨rfl, hb⟩; refine ⟨_, rfl, ?_⟩; have n0_ := Aside0.mk (Kd.R_below (sqR HO751.out) hb); have n1_ := Aside0.mk (Kd.R_below (sqR HO753.out) hb); have n2_ := Aside0.mk (below_step sqB hb); clear HO751; clear HO753; clear HB; have HO751 := n0_; have HO753 := n1_; have HB := n2_; clear n0_ n1_ n2_; (try clear hb); (try clear hb2); (try clear hk); (try clear hi)) | ((with_reducible refine gate_callee (f := 9) rfl ?_); refine goesL_ (some 24) rfl rfl Tryz.func9 (by kernel_rfl) rfl #[] rfl sqA ?_; (with_reducible refine (endonymlaw2_told.calls k  true _ ⟨htab.out.below sqB⟩ A5.out).mono ?_); rintro e w20 ⟨rfl, hb⟩; refine ⟨_, rfl, ?_⟩; have n0_ := Aside0.mk (Kd.R_below (sqR HO751.out) hb); have n1_ := Aside0.mk (Kd.R_below (sqR HO753.out) hb); have n2_ := Aside0.mk (below_step sqB hb); clear HO751; clear HO753; clear HB; have HO751 := n0_; have HO753 := n1_; have HB := n2_; clear n0_ n1_ n2_; (try clear hb); (try clear hb2); (try clear hk); (try clear hi)))
  go_ret
  exact ⟨sqE', sqB⟩
 replace c6 := Bool.eq_false_iff.mpr c6
 subst c6
 have H1 : (some false) = some r := by rw [if_neg (show ¬ (false = true) by decide)] at H; exact H
 clear H
 have H := H1
 clear H1
 obtain rfl := Option.some.inj H
 go_enter Tryz.func6, Tryz.ntmps6
 go_wp2_with (first | ((with_reducible refine gate_callee (f := 14) rfl ?_); refine goesL_ (some 11) rfl rfl Tryz.func14 (by kernel_rfl) rfl #[.slice A0 l0.length c0, .int .i64 60] rfl sqA ?_; (with_reducible refine (endonymlaw2_floats.calls k _ _ l0 60 t748 t749 _ ?side1 ?side2 A2.out).mono ?_); (case side1 => repeat (first | exact HR0.out | (with_reducible refine Kd.C_alloc ?_ _) | (with_reducible refine Kd.C_drewN ?_ _) | (with_reducible refine Kd.C_drew ?_))); (case side2 => exact HC0.out); rintro e w21 ⟨v750, v752, rfl, ho0, ho1, hb⟩; refine ⟨_, rfl, ?_⟩; have n0_ := Aside0.mk (Kd.R_lower ho0 (below_size sqB)); have n1_ := Aside0.mk (Kd.R_lower ho1 (below_size sqB)); have n2_ := Aside0.mk (below_step sqB hb); clear HB; have HO751 := n0_; have HO753 := n1_; have HB := n2_; clear n0_ n1_ n2_; (try clear hb); (try clear hb2); (try clear hk); (try clear hi); (try clear ho0); (try clear ho1); obtain ⟨Ao22, co22, eo22⟩ := Kd.R_slice HO751.out; subst eo22) | ((with_reducible refine gate_callee (f := 22) rfl ?_); refine goesL_ (some 16) rfl rfl Tryz.func22 (by kernel_rfl) rfl #[.slice Ao22 t748.length co22] rfl sqA ?_; (with_reducible refine (weigh_Mean.calls k _ _ t748 t754 t755 _ ?side1 ?side2 A3.out).mono ?_); (case side1 => repeat (first | exact (Kd.R_reads' HO751.out).2.2 | (with_reducible refine Kd.C_alloc ?_ _) | (with_reducible refine Kd.C_drewN ?_ _) | (with_reducible refine Kd.C_drew ?_))); (case side2 => exact (Kd.R_reads' HO751.out).2.1); rintro e w23 ⟨rfl, hb⟩; refine ⟨_, rfl, ?_⟩; have n0_ := Aside0.mk (Kd.R_below (sqR HO751.out) hb); have n1_ := Aside0.mk (Kd.R_below (sqR HO753.out) hb); have n2_ := Aside0.mk (below_step sqB hb); clear HO751; clear HO753; clear HB; have HO751 := n0_; have HO753 := n1_; have HB := n2_; clear n0_ n1_ n2_; (try clear hb); (try clear hb2); (try clear hk); (try clear hi); obtain ⟨Ao24, co24, eo24⟩ := Kd.R_slice HO753.out; subst eo24) | ((with_reducible refine gate_callee (f := 23) rfl ?_); refine goesL_ (some 21) rfl rfl Tryz.func23 (by kernel_rfl) rfl #[.slice Ao24 t749.length co24] rfl sqA ?_; (with_reducible refine (endonymref2_Mean.calls k _ _ t749 t756 t757 _ ?side1 ?side2 A4.out).mono ?_); (case side1 => repeat (first | exact (Kd.R_reads' HO753.out).2.2 | (with_reducible refine Kd.C_alloc ?_ _) | (with_reducible refine Kd.C_drewN ?_ _) | (with_reducible refine Kd.C_drew ?_))); (case side2 => exact (Kd.R_reads' HO753.out).2.1); rintro e w25 ⟨rfl, hb⟩; refine ⟨_, rfl, ?_⟩; have n0_ := Aside0.mk (Kd.R_below (sqR HO751.out) hb); have n1_ := Aside0.mk (Kd.R_below (sqR HO753.out) hb); have n2_ := Aside0.mk (below_step sqB hb); clear HO751; clear HO753; clear HB; have HO751 := n0_; have HO753 := n1_; have HB := n2_; clear n0_ n1_ n2_; (try clear hb); (try clear hb2); (try clear hk); (try clear hi)) | ((with_reducible refine gate_callee (f := 9) rfl ?_); refine goesL_ (some 24) rfl rfl Tryz.func9 (by kernel_rfl) rfl #[] rfl sqA ?_; (with_reducible refine (endonymlaw2_told.calls k  false _ ⟨htab.out.below sqB⟩ A5.out).mono ?_); rintro e w26 ⟨rfl, hb⟩; refine ⟨_, rfl, ?_⟩; have n0_ := Aside0.mk (Kd.R_below (sqR HO751.out) hb); have n1_ := Aside0.mk (Kd.R_below (sqR HO753.out) hb); have n2_ := Aside0.mk (below_step sqB hb); clear HO751; clear HO753; clear HB; have HO751 := n0_; have HO753 := n1_; have HB := n2_; clear n0_ n1_ n2_; (try clear hb); (try clear hb2); (try clear hk); (try clear hi)))
 go_ret
 exact ⟨sqE', sqB⟩

end Go.Proofs.YtfmjdoofopamkaaGreatDoor.W
