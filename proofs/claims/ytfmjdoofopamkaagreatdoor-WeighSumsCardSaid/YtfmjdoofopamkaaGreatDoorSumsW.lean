import Derived.Test.YtfmjdoofopamkaaGreatDoorWx0
import Derived.Test.YtfmjdoofopamkaaGreatDoorWx24
import Derived.Test.YtfmjdoofopamkaaGreatDoorSumsR
import Derived.Test.YtfmjdoofopamkaaGreatDoorSumsP
import Derived.Test.YtfmjdoofopamkaaGreatDoorWx8
import Derived.Test.YtfmjdoofopamkaaGreatDoorWx9
import Derived.Test.YtfmjdoofopamkaaGreatDoorWx10
import Derived.Test.YtfmjdoofopamkaaGreatDoorWx11
import Derived.Test.YtfmjdoofopamkaaGreatDoorWx12
import Derived.Test.YtfmjdoofopamkaaGreatDoorWx13
import Derived.Test.YtfmjdoofopamkaaGreatDoorWx22
import Derived.Test.YtfmjdoofopamkaaGreatDoorWx23
namespace Go.Proofs.YtfmjdoofopamkaaGreatDoor.W
open Go.RowKit Go.Proofs.YtfmjdoofopamkaaGreatDoorW.PrintWords Go.Proofs.YtfmjdoofopamkaaGreatDoorW.PrintLast Go.Proofs.YtfmjdoofopamkaaGreatDoorW.PrintMore
set_option maxHeartbeats 8000000
set_option maxRecDepth 100000
attribute [local go_sem] max2_int min2_int max_two min_two max_three min_three max_four min_four
set_option linter.unusedVariables false
set_option linter.unusedSimpArgs false
theorem sqC_ {p q : Prop} (h0 : p) (h : p → q := by intro h0; repeat (first | exact h0 | (with_reducible refine Kd.C_alloc ?_ _) | (with_reducible refine Kd.C_drewN ?_ _) | (with_reducible refine Kd.C_drew ?_))) : q := h h0
open Classical in
noncomputable def endonymlaw2_WeighSumsN.f (k : Nat) (l0 : List Int) : Option Bool := if Plain.SumsOk k l0 then some true else none
theorem endonymlaw2_WeighSumsN.calls (k : Nat) (A0 : Option Addr) (c0 : Nat) (l0 : List Int) (r : Bool) (w : World) (htab : Aside0 (Rm.Tab w)) (hr0 : Kd.C (Kd.int .u64) w A0 l0.length l0) (hc0 : l0.length ≤ c0) (h : endonymlaw2_WeighSumsN.f k l0 = some r) :
  Calls Tryz.prog 5 #[.slice A0 l0.length c0] w fun e w' => e = .returned (.bool r) ∧ Below w.heap.size w w' := by
 have HR0 := Aside0.mk hr0
 have HC0 := Aside0.mk hc0
 clear hr0 hc0
 have HB := Aside0.mk (Below.refl w.heap.size w)
 have hs : Plain.SumsOk k l0 ∧ r = true := by
  unfold endonymlaw2_WeighSumsN.f at h
  by_cases hh : Plain.SumsOk k l0
  · rw [if_pos hh] at h; exact ⟨hh, (Option.some.inj h).symm⟩
  · rw [if_neg hh] at h; exact absurd h (by simp)
 obtain ⟨⟨t714, t715, t722, a2, a5, hw, hl, hall⟩, hr⟩ := hs
 have HALL : Aside0 (∀ ra rb, Plain.Agree ra (Plain.sumC 0 t714) → Plain.Agree rb (Plain.pairC 1000 t714) → endonymlaw2_WeighSums.l0 k t714 t715 ra rb t722 0 = some r) := ⟨by rw [hr]; exact hall⟩
 have A2 := Aside0.mk a2
 have A5 := Aside0.mk a5
 have HW := Aside0.mk hw
 have HL := Aside0.mk hl
 clear a2 a5 hw hl hall hr h
 go_enter Tryz.func5, Tryz.ntmps5
 go_wp2_with (first | (go_at_call 14; (with_reducible refine (endonymlaw2_floats.calls k _ _ l0 60 t714 t715 _ ?side1 ?side2 A2.out).mono ?_); (case side1 => exact sqC_ HR0.out); (case side2 => exact HC0.out); rintro e w6 ⟨v716, v718, rfl, ho0, ho1, hb⟩; have n0_ := Aside0.mk (Kd.R_lower ho0 (below_size sqB)); have n1_ := Aside0.mk (Kd.R_lower ho1 (below_size sqB)); have n2_ := Aside0.mk (below_step sqB hb); clear HB; have HO717 := n0_; have HO719 := n1_; have HB := n2_; clear n0_ n1_ n2_; (try clear hb); (try clear hb2); (try clear hk); (try clear hi); (try clear ho0); (try clear ho1); obtain ⟨Ao7, co7, eo7⟩ := Kd.R_slice HO717.out; subst eo7) | (go_at_call 15; (with_reducible refine (Plain.sum_callsN _ _ t714 _ ?side1 ?side2 HW.out HL.out).mono ?_); (case side1 => exact sqC_ (Kd.R_reads' HO717.out).2.2); (case side2 => exact (Kd.R_reads' HO717.out).2.1); rintro e w' ⟨t720, ag_, rfl, ⟨nd, rfl⟩⟩; have AG1 := Aside0.mk ag_; clear ag_; (try first | exact ⟨rfl, _, World.drewN_drewN _ _ _⟩ | exact ⟨rfl, _, Eq.trans (World.drewN_drewN _ _ _) (congrArg (World.drewN _) (Nat.add_assoc _ _ _))⟩)) | (go_at_call 16; (with_reducible refine (Plain.pairs_callsN 1000 _ _ t714 _ ?side1 ?side2 HW.out HL.out (Nat.le_refl _)).mono ?_); (case side1 => exact sqC_ (Kd.R_reads' HO717.out).2.2); (case side2 => exact (Kd.R_reads' HO717.out).2.1); rintro e w8 ⟨t721, ag_, rfl, hb⟩; have AG2 := Aside0.mk ag_; clear ag_; have n0_ := Aside0.mk (Kd.R_below (sqR HO717.out) hb); have n1_ := Aside0.mk (Kd.R_below (sqR HO719.out) hb); have n2_ := Aside0.mk (below_step sqB hb); clear HO717; clear HO719; clear HB; have HO717 := n0_; have HO719 := n1_; have HB := n2_; clear n0_ n1_ n2_; (try clear hb); (try clear hb2); (try clear hk); (try clear hi)) | (go_at_call 17; (with_reducible refine (weigh_Exact.calls k _ _ t714 t722 _ ?side1 ?side2 A5.out).mono ?_); (case side1 => exact sqC_ (Kd.R_reads' HO717.out).2.2); (case side2 => exact (Kd.R_reads' HO717.out).2.1); rintro e w9 ⟨rfl, hb⟩; have n0_ := Aside0.mk (Kd.R_below (sqR HO717.out) hb); have n1_ := Aside0.mk (Kd.R_below (sqR HO719.out) hb); have n2_ := Aside0.mk (below_step sqB hb); clear HO717; clear HO719; clear HB; have HO717 := n0_; have HO719 := n1_; have HB := n2_; clear n0_ n1_ n2_; (try clear hb); (try clear hb2); (try clear hk); (try clear hi)))
 repeat (go_quiet (first | (go_at_call 14; (with_reducible refine (endonymlaw2_floats.calls k _ _ l0 60 t714 t715 _ ?side1 ?side2 A2.out).mono ?_); (case side1 => exact sqC_ HR0.out); (case side2 => exact HC0.out); rintro e w6 ⟨v716, v718, rfl, ho0, ho1, hb⟩; have n0_ := Aside0.mk (Kd.R_lower ho0 (below_size sqB)); have n1_ := Aside0.mk (Kd.R_lower ho1 (below_size sqB)); have n2_ := Aside0.mk (below_step sqB hb); clear HB; have HO717 := n0_; have HO719 := n1_; have HB := n2_; clear n0_ n1_ n2_; (try clear hb); (try clear hb2); (try clear hk); (try clear hi); (try clear ho0); (try clear ho1); obtain ⟨Ao7, co7, eo7⟩ := Kd.R_slice HO717.out; subst eo7) | (go_at_call 15; (with_reducible refine (Plain.sum_callsN _ _ t714 _ ?side1 ?side2 HW.out HL.out).mono ?_); (case side1 => exact sqC_ (Kd.R_reads' HO717.out).2.2); (case side2 => exact (Kd.R_reads' HO717.out).2.1); rintro e w' ⟨t720, ag_, rfl, ⟨nd, rfl⟩⟩; have AG1 := Aside0.mk ag_; clear ag_; (try first | exact ⟨rfl, _, World.drewN_drewN _ _ _⟩ | exact ⟨rfl, _, Eq.trans (World.drewN_drewN _ _ _) (congrArg (World.drewN _) (Nat.add_assoc _ _ _))⟩)) | (go_at_call 16; (with_reducible refine (Plain.pairs_callsN 1000 _ _ t714 _ ?side1 ?side2 HW.out HL.out (Nat.le_refl _)).mono ?_); (case side1 => exact sqC_ (Kd.R_reads' HO717.out).2.2); (case side2 => exact (Kd.R_reads' HO717.out).2.1); rintro e w8 ⟨t721, ag_, rfl, hb⟩; have AG2 := Aside0.mk ag_; clear ag_; have n0_ := Aside0.mk (Kd.R_below (sqR HO717.out) hb); have n1_ := Aside0.mk (Kd.R_below (sqR HO719.out) hb); have n2_ := Aside0.mk (below_step sqB hb); clear HO717; clear HO719; clear HB; have HO717 := n0_; have HO719 := n1_; have HB := n2_; clear n0_ n1_ n2_; (try clear hb); (try clear hb2); (try clear hk); (try clear hi)) | (go_at_call 17; (with_reducible refine (weigh_Exact.calls k _ _ t714 t722 _ ?side1 ?side2 A5.out).mono ?_); (case side1 => exact sqC_ (Kd.R_reads' HO717.out).2.2); (case side2 => exact (Kd.R_reads' HO717.out).2.1); rintro e w9 ⟨rfl, hb⟩; have n0_ := Aside0.mk (Kd.R_below (sqR HO717.out) hb); have n1_ := Aside0.mk (Kd.R_below (sqR HO719.out) hb); have n2_ := Aside0.mk (below_step sqB hb); clear HO717; clear HO719; clear HB; have HO717 := n0_; have HO719 := n1_; have HB := n2_; clear n0_ n1_ n2_; (try clear hb); (try clear hb2); (try clear hk); (try clear hi))); try go_wp2_with (first | (go_at_call 14; (with_reducible refine (endonymlaw2_floats.calls k _ _ l0 60 t714 t715 _ ?side1 ?side2 A2.out).mono ?_); (case side1 => exact sqC_ HR0.out); (case side2 => exact HC0.out); rintro e w6 ⟨v716, v718, rfl, ho0, ho1, hb⟩; have n0_ := Aside0.mk (Kd.R_lower ho0 (below_size sqB)); have n1_ := Aside0.mk (Kd.R_lower ho1 (below_size sqB)); have n2_ := Aside0.mk (below_step sqB hb); clear HB; have HO717 := n0_; have HO719 := n1_; have HB := n2_; clear n0_ n1_ n2_; (try clear hb); (try clear hb2); (try clear hk); (try clear hi); (try clear ho0); (try clear ho1); obtain ⟨Ao7, co7, eo7⟩ := Kd.R_slice HO717.out; subst eo7) | (go_at_call 15; (with_reducible refine (Plain.sum_callsN _ _ t714 _ ?side1 ?side2 HW.out HL.out).mono ?_); (case side1 => exact sqC_ (Kd.R_reads' HO717.out).2.2); (case side2 => exact (Kd.R_reads' HO717.out).2.1); rintro e w' ⟨t720, ag_, rfl, ⟨nd, rfl⟩⟩; have AG1 := Aside0.mk ag_; clear ag_; (try first | exact ⟨rfl, _, World.drewN_drewN _ _ _⟩ | exact ⟨rfl, _, Eq.trans (World.drewN_drewN _ _ _) (congrArg (World.drewN _) (Nat.add_assoc _ _ _))⟩)) | (go_at_call 16; (with_reducible refine (Plain.pairs_callsN 1000 _ _ t714 _ ?side1 ?side2 HW.out HL.out (Nat.le_refl _)).mono ?_); (case side1 => exact sqC_ (Kd.R_reads' HO717.out).2.2); (case side2 => exact (Kd.R_reads' HO717.out).2.1); rintro e w8 ⟨t721, ag_, rfl, hb⟩; have AG2 := Aside0.mk ag_; clear ag_; have n0_ := Aside0.mk (Kd.R_below (sqR HO717.out) hb); have n1_ := Aside0.mk (Kd.R_below (sqR HO719.out) hb); have n2_ := Aside0.mk (below_step sqB hb); clear HO717; clear HO719; clear HB; have HO717 := n0_; have HO719 := n1_; have HB := n2_; clear n0_ n1_ n2_; (try clear hb); (try clear hb2); (try clear hk); (try clear hi)) | (go_at_call 17; (with_reducible refine (weigh_Exact.calls k _ _ t714 t722 _ ?side1 ?side2 A5.out).mono ?_); (case side1 => exact sqC_ (Kd.R_reads' HO717.out).2.2); (case side2 => exact (Kd.R_reads' HO717.out).2.1); rintro e w9 ⟨rfl, hb⟩; have n0_ := Aside0.mk (Kd.R_below (sqR HO717.out) hb); have n1_ := Aside0.mk (Kd.R_below (sqR HO719.out) hb); have n2_ := Aside0.mk (below_step sqB hb); clear HO717; clear HO719; clear HB; have HO717 := n0_; have HO719 := n1_; have HB := n2_; clear n0_ n1_ n2_; (try clear hb); (try clear hb2); (try clear hk); (try clear hi))))
 try simp only [Act.put, List.setIfInBounds_toArray, List.set_cons_zero, List.set_cons_succ]
 have H' := Aside0.mk (HALL.out t720 t721 AG1.out AG2.out)
 go_loopg [8] k (fun kq v8 w' => ∃ (x8_1 : Int), v8 = .int .i64 x8_1 ∧ Aside0 (endonymlaw2_WeighSums.l0 kq t714 t715 t720 t721 t722 x8_1 = some r) ∧ Aside0 (kq ≤ k) ∧ Aside0 (Kd.R Kd.flt 22 w' w.heap.size (fun _ => True) (.slice Ao7 t714.length co7) t714) ∧ Aside0 (Kd.R (Kd.int .u64) 26 w' w.heap.size (fun _ => True) v718 t715) ∧ Aside0 (Below w.heap.size w w'))
 case atStart => exact ⟨(0), sqE, H', ⟨Nat.le_refl _⟩, ⟨sqR HO717.out⟩, ⟨sqR HO719.out⟩, ⟨sqB⟩⟩
 case round =>
  clear H'
  try clear p2
  try clear c5
  obtain ⟨x8_1, rfl, HA, HK1, HO_3, HO_4, HB⟩ := hrel
  cases gk with
  | zero => exact absurd HA.out (by simp [endonymlaw2_WeighSums.l0])
  | succ k1 =>
   have H := HA.out
   clear HA
   simp only [endonymlaw2_WeighSums.l0] at H
   by_cases c10 : x8_1 < (t714.length : Int)
   case neg =>
    rw [if_neg c10] at H
    have c10b0 := decide_eq_false c10
    clear c10
    obtain ⟨t728, A18, H⟩ := sqO H
    try dsimp only at H
    by_cases c19 : t728 = true
    case neg =>
     replace c19 := Bool.eq_false_iff.mpr c19
     subst c19
     have H1 : (some false) = some r := by rw [if_neg (show ¬ (false = true) by decide)] at H; exact H
     clear H
     have H := H1
     clear H1
     obtain rfl := Option.some.inj H
     go_wp2_with (first | (go_at_call 9; (with_reducible refine (endonymlaw2_told.calls k1  false _ ⟨htab.out.below sqB⟩ A18.out).mono ?_); rintro e w40 ⟨rfl, hb⟩; have n0_ := Aside0.mk (Kd.R_below (sqR HO_3.out) hb); have n1_ := Aside0.mk (Kd.R_below (sqR HO_4.out) hb); have n2_ := Aside0.mk (below_step sqB hb); clear HO_3; clear HO_4; clear HB; have HO_3 := n0_; have HO_4 := n1_; have HB := n2_; clear n0_ n1_ n2_; (try clear hb); (try clear hb2); (try clear hk); (try clear hi)))
     repeat (go_quiet (first | (go_at_call 9; (with_reducible refine (endonymlaw2_told.calls k1  false _ ⟨htab.out.below sqB⟩ A18.out).mono ?_); rintro e w40 ⟨rfl, hb⟩; have n0_ := Aside0.mk (Kd.R_below (sqR HO_3.out) hb); have n1_ := Aside0.mk (Kd.R_below (sqR HO_4.out) hb); have n2_ := Aside0.mk (below_step sqB hb); clear HO_3; clear HO_4; clear HB; have HO_3 := n0_; have HO_4 := n1_; have HB := n2_; clear n0_ n1_ n2_; (try clear hb); (try clear hb2); (try clear hk); (try clear hi))); try go_wp2_with (first | (go_at_call 9; (with_reducible refine (endonymlaw2_told.calls k1  false _ ⟨htab.out.below sqB⟩ A18.out).mono ?_); rintro e w40 ⟨rfl, hb⟩; have n0_ := Aside0.mk (Kd.R_below (sqR HO_3.out) hb); have n1_ := Aside0.mk (Kd.R_below (sqR HO_4.out) hb); have n2_ := Aside0.mk (below_step sqB hb); clear HO_3; clear HO_4; clear HB; have HO_3 := n0_; have HO_4 := n1_; have HB := n2_; clear n0_ n1_ n2_; (try clear hb); (try clear hb2); (try clear hk); (try clear hi))))
     go_ret
     exact ⟨sqE', sqB⟩
    subst c19
    have H1 : ((endonymref2_Sum.f k1 t715).bind fun t729 => ((endonymlaw2_same.f t720 t729).bind fun t730 => (if t730 = true then ((endonymref2_Pairs.f k1 t715).bind fun t731 => ((endonymlaw2_same.f t721 t731).bind fun t732 => (if t732 = true then ((endonymref2_Exact.f k1 t715).bind fun t733 => ((endonymlaw2_same.f t722 t733).bind fun t734 => (some t734))) else (some false)))) else (some false)))) = some r := by rw [if_pos rfl] at H; exact H
    clear H
    have H := H1
    clear H1
    obtain ⟨t729, A20, H⟩ := sqO H
    try dsimp only at H
    obtain ⟨t730, A21, H⟩ := sqO H
    try dsimp only at H
    by_cases c22 : t730 = true
    case neg =>
     replace c22 := Bool.eq_false_iff.mpr c22
     subst c22
     have H1 : (some false) = some r := by rw [if_neg (show ¬ (false = true) by decide)] at H; exact H
     clear H
     have H := H1
     clear H1
     obtain rfl := Option.some.inj H
     go_wp2_with (first | (go_at_call 9; (with_reducible refine (endonymlaw2_told.calls k1  true _ ⟨htab.out.below sqB⟩ A18.out).mono ?_); rintro e w37 ⟨rfl, hb⟩; have n0_ := Aside0.mk (Kd.R_below (sqR HO_3.out) hb); have n1_ := Aside0.mk (Kd.R_below (sqR HO_4.out) hb); have n2_ := Aside0.mk (below_step sqB hb); clear HO_3; clear HO_4; clear HB; have HO_3 := n0_; have HO_4 := n1_; have HB := n2_; clear n0_ n1_ n2_; (try clear hb); (try clear hb2); (try clear hk); (try clear hi); obtain ⟨Ao38, co38, eo38⟩ := Kd.R_slice HO_4.out; subst eo38) | (go_at_call 19; (with_reducible refine (endonymref2_Sum.calls k1 _ _ t715 t729 _ ?side1 ?side2 A20.out).mono ?_); (case side1 => exact sqC_ (Kd.R_reads' HO_4.out).2.2); (case side2 => exact (Kd.R_reads' HO_4.out).2.1); rintro e w39 ⟨rfl, hb⟩; have n0_ := Aside0.mk (Kd.R_below (sqR HO_3.out) hb); have n1_ := Aside0.mk (Kd.R_below (sqR HO_4.out) hb); have n2_ := Aside0.mk (below_step sqB hb); clear HO_3; clear HO_4; clear HB; have HO_3 := n0_; have HO_4 := n1_; have HB := n2_; clear n0_ n1_ n2_; (try clear hb); (try clear hb2); (try clear hk); (try clear hi)) | (go_at_call 18; (with_reducible refine (endonymlaw2_same.calls t720 t729 false _ A21.out).mono ?_); rintro e w' ⟨rfl, ⟨nd, rfl⟩⟩; (try first | exact ⟨rfl, _, World.drewN_drewN _ _ _⟩ | exact ⟨rfl, _, Eq.trans (World.drewN_drewN _ _ _) (congrArg (World.drewN _) (Nat.add_assoc _ _ _))⟩)))
     repeat (go_quiet (first | (go_at_call 9; (with_reducible refine (endonymlaw2_told.calls k1  true _ ⟨htab.out.below sqB⟩ A18.out).mono ?_); rintro e w37 ⟨rfl, hb⟩; have n0_ := Aside0.mk (Kd.R_below (sqR HO_3.out) hb); have n1_ := Aside0.mk (Kd.R_below (sqR HO_4.out) hb); have n2_ := Aside0.mk (below_step sqB hb); clear HO_3; clear HO_4; clear HB; have HO_3 := n0_; have HO_4 := n1_; have HB := n2_; clear n0_ n1_ n2_; (try clear hb); (try clear hb2); (try clear hk); (try clear hi); obtain ⟨Ao38, co38, eo38⟩ := Kd.R_slice HO_4.out; subst eo38) | (go_at_call 19; (with_reducible refine (endonymref2_Sum.calls k1 _ _ t715 t729 _ ?side1 ?side2 A20.out).mono ?_); (case side1 => exact sqC_ (Kd.R_reads' HO_4.out).2.2); (case side2 => exact (Kd.R_reads' HO_4.out).2.1); rintro e w39 ⟨rfl, hb⟩; have n0_ := Aside0.mk (Kd.R_below (sqR HO_3.out) hb); have n1_ := Aside0.mk (Kd.R_below (sqR HO_4.out) hb); have n2_ := Aside0.mk (below_step sqB hb); clear HO_3; clear HO_4; clear HB; have HO_3 := n0_; have HO_4 := n1_; have HB := n2_; clear n0_ n1_ n2_; (try clear hb); (try clear hb2); (try clear hk); (try clear hi)) | (go_at_call 18; (with_reducible refine (endonymlaw2_same.calls t720 t729 false _ A21.out).mono ?_); rintro e w' ⟨rfl, ⟨nd, rfl⟩⟩; (try first | exact ⟨rfl, _, World.drewN_drewN _ _ _⟩ | exact ⟨rfl, _, Eq.trans (World.drewN_drewN _ _ _) (congrArg (World.drewN _) (Nat.add_assoc _ _ _))⟩))); try go_wp2_with (first | (go_at_call 9; (with_reducible refine (endonymlaw2_told.calls k1  true _ ⟨htab.out.below sqB⟩ A18.out).mono ?_); rintro e w37 ⟨rfl, hb⟩; have n0_ := Aside0.mk (Kd.R_below (sqR HO_3.out) hb); have n1_ := Aside0.mk (Kd.R_below (sqR HO_4.out) hb); have n2_ := Aside0.mk (below_step sqB hb); clear HO_3; clear HO_4; clear HB; have HO_3 := n0_; have HO_4 := n1_; have HB := n2_; clear n0_ n1_ n2_; (try clear hb); (try clear hb2); (try clear hk); (try clear hi); obtain ⟨Ao38, co38, eo38⟩ := Kd.R_slice HO_4.out; subst eo38) | (go_at_call 19; (with_reducible refine (endonymref2_Sum.calls k1 _ _ t715 t729 _ ?side1 ?side2 A20.out).mono ?_); (case side1 => exact sqC_ (Kd.R_reads' HO_4.out).2.2); (case side2 => exact (Kd.R_reads' HO_4.out).2.1); rintro e w39 ⟨rfl, hb⟩; have n0_ := Aside0.mk (Kd.R_below (sqR HO_3.out) hb); have n1_ := Aside0.mk (Kd.R_below (sqR HO_4.out) hb); have n2_ := Aside0.mk (below_step sqB hb); clear HO_3; clear HO_4; clear HB; have HO_3 := n0_; have HO_4 := n1_; have HB := n2_; clear n0_ n1_ n2_; (try clear hb); (try clear hb2); (try clear hk); (try clear hi)) | (go_at_call 18; (with_reducible refine (endonymlaw2_same.calls t720 t729 false _ A21.out).mono ?_); rintro e w' ⟨rfl, ⟨nd, rfl⟩⟩; (try first | exact ⟨rfl, _, World.drewN_drewN _ _ _⟩ | exact ⟨rfl, _, Eq.trans (World.drewN_drewN _ _ _) (congrArg (World.drewN _) (Nat.add_assoc _ _ _))⟩))))
     go_ret
     exact ⟨sqE', sqB⟩
    subst c22
    have H1 : ((endonymref2_Pairs.f k1 t715).bind fun t731 => ((endonymlaw2_same.f t721 t731).bind fun t732 => (if t732 = true then ((endonymref2_Exact.f k1 t715).bind fun t733 => ((endonymlaw2_same.f t722 t733).bind fun t734 => (some t734))) else (some false)))) = some r := by rw [if_pos rfl] at H; exact H
    clear H
    have H := H1
    clear H1
    obtain ⟨t731, A23, H⟩ := sqO H
    try dsimp only at H
    obtain ⟨t732, A24, H⟩ := sqO H
    try dsimp only at H
    by_cases c25 : t732 = true
    case neg =>
     replace c25 := Bool.eq_false_iff.mpr c25
     subst c25
     have H1 : (some false) = some r := by rw [if_neg (show ¬ (false = true) by decide)] at H; exact H
     clear H
     have H := H1
     clear H1
     obtain rfl := Option.some.inj H
     go_wp2_with (first | (go_at_call 9; (with_reducible refine (endonymlaw2_told.calls k1  true _ ⟨htab.out.below sqB⟩ A18.out).mono ?_); rintro e w33 ⟨rfl, hb⟩; have n0_ := Aside0.mk (Kd.R_below (sqR HO_3.out) hb); have n1_ := Aside0.mk (Kd.R_below (sqR HO_4.out) hb); have n2_ := Aside0.mk (below_step sqB hb); clear HO_3; clear HO_4; clear HB; have HO_3 := n0_; have HO_4 := n1_; have HB := n2_; clear n0_ n1_ n2_; (try clear hb); (try clear hb2); (try clear hk); (try clear hi); obtain ⟨Ao34, co34, eo34⟩ := Kd.R_slice HO_4.out; subst eo34) | (go_at_call 19; (with_reducible refine (endonymref2_Sum.calls k1 _ _ t715 t729 _ ?side1 ?side2 A20.out).mono ?_); (case side1 => exact sqC_ (Kd.R_reads' HO_4.out).2.2); (case side2 => exact (Kd.R_reads' HO_4.out).2.1); rintro e w35 ⟨rfl, hb⟩; have n0_ := Aside0.mk (Kd.R_below (sqR HO_3.out) hb); have n1_ := Aside0.mk (Kd.R_below (sqR HO_4.out) hb); have n2_ := Aside0.mk (below_step sqB hb); clear HO_3; clear HO_4; clear HB; have HO_3 := n0_; have HO_4 := n1_; have HB := n2_; clear n0_ n1_ n2_; (try clear hb); (try clear hb2); (try clear hk); (try clear hi)) | (go_at_call 18; (with_reducible refine (endonymlaw2_same.calls t720 t729 true _ A21.out).mono ?_); rintro e w' ⟨rfl, ⟨nd, rfl⟩⟩; (try first | exact ⟨rfl, _, World.drewN_drewN _ _ _⟩ | exact ⟨rfl, _, Eq.trans (World.drewN_drewN _ _ _) (congrArg (World.drewN _) (Nat.add_assoc _ _ _))⟩)) | (go_at_call 20; (with_reducible refine (endonymref2_Pairs.calls k1 _ _ t715 t731 _ ?side1 ?side2 A23.out).mono ?_); (case side1 => exact sqC_ (Kd.R_reads' HO_4.out).2.2); (case side2 => exact (Kd.R_reads' HO_4.out).2.1); rintro e w36 ⟨rfl, hb⟩; have n0_ := Aside0.mk (Kd.R_below (sqR HO_3.out) hb); have n1_ := Aside0.mk (Kd.R_below (sqR HO_4.out) hb); have n2_ := Aside0.mk (below_step sqB hb); clear HO_3; clear HO_4; clear HB; have HO_3 := n0_; have HO_4 := n1_; have HB := n2_; clear n0_ n1_ n2_; (try clear hb); (try clear hb2); (try clear hk); (try clear hi)) | (go_at_call 18; (with_reducible refine (endonymlaw2_same.calls t721 t731 false _ A24.out).mono ?_); rintro e w' ⟨rfl, ⟨nd, rfl⟩⟩; (try first | exact ⟨rfl, _, World.drewN_drewN _ _ _⟩ | exact ⟨rfl, _, Eq.trans (World.drewN_drewN _ _ _) (congrArg (World.drewN _) (Nat.add_assoc _ _ _))⟩)))
     repeat (go_quiet (first | (go_at_call 9; (with_reducible refine (endonymlaw2_told.calls k1  true _ ⟨htab.out.below sqB⟩ A18.out).mono ?_); rintro e w33 ⟨rfl, hb⟩; have n0_ := Aside0.mk (Kd.R_below (sqR HO_3.out) hb); have n1_ := Aside0.mk (Kd.R_below (sqR HO_4.out) hb); have n2_ := Aside0.mk (below_step sqB hb); clear HO_3; clear HO_4; clear HB; have HO_3 := n0_; have HO_4 := n1_; have HB := n2_; clear n0_ n1_ n2_; (try clear hb); (try clear hb2); (try clear hk); (try clear hi); obtain ⟨Ao34, co34, eo34⟩ := Kd.R_slice HO_4.out; subst eo34) | (go_at_call 19; (with_reducible refine (endonymref2_Sum.calls k1 _ _ t715 t729 _ ?side1 ?side2 A20.out).mono ?_); (case side1 => exact sqC_ (Kd.R_reads' HO_4.out).2.2); (case side2 => exact (Kd.R_reads' HO_4.out).2.1); rintro e w35 ⟨rfl, hb⟩; have n0_ := Aside0.mk (Kd.R_below (sqR HO_3.out) hb); have n1_ := Aside0.mk (Kd.R_below (sqR HO_4.out) hb); have n2_ := Aside0.mk (below_step sqB hb); clear HO_3; clear HO_4; clear HB; have HO_3 := n0_; have HO_4 := n1_; have HB := n2_; clear n0_ n1_ n2_; (try clear hb); (try clear hb2); (try clear hk); (try clear hi)) | (go_at_call 18; (with_reducible refine (endonymlaw2_same.calls t720 t729 true _ A21.out).mono ?_); rintro e w' ⟨rfl, ⟨nd, rfl⟩⟩; (try first | exact ⟨rfl, _, World.drewN_drewN _ _ _⟩ | exact ⟨rfl, _, Eq.trans (World.drewN_drewN _ _ _) (congrArg (World.drewN _) (Nat.add_assoc _ _ _))⟩)) | (go_at_call 20; (with_reducible refine (endonymref2_Pairs.calls k1 _ _ t715 t731 _ ?side1 ?side2 A23.out).mono ?_); (case side1 => exact sqC_ (Kd.R_reads' HO_4.out).2.2); (case side2 => exact (Kd.R_reads' HO_4.out).2.1); rintro e w36 ⟨rfl, hb⟩; have n0_ := Aside0.mk (Kd.R_below (sqR HO_3.out) hb); have n1_ := Aside0.mk (Kd.R_below (sqR HO_4.out) hb); have n2_ := Aside0.mk (below_step sqB hb); clear HO_3; clear HO_4; clear HB; have HO_3 := n0_; have HO_4 := n1_; have HB := n2_; clear n0_ n1_ n2_; (try clear hb); (try clear hb2); (try clear hk); (try clear hi)) | (go_at_call 18; (with_reducible refine (endonymlaw2_same.calls t721 t731 false _ A24.out).mono ?_); rintro e w' ⟨rfl, ⟨nd, rfl⟩⟩; (try first | exact ⟨rfl, _, World.drewN_drewN _ _ _⟩ | exact ⟨rfl, _, Eq.trans (World.drewN_drewN _ _ _) (congrArg (World.drewN _) (Nat.add_assoc _ _ _))⟩))); try go_wp2_with (first | (go_at_call 9; (with_reducible refine (endonymlaw2_told.calls k1  true _ ⟨htab.out.below sqB⟩ A18.out).mono ?_); rintro e w33 ⟨rfl, hb⟩; have n0_ := Aside0.mk (Kd.R_below (sqR HO_3.out) hb); have n1_ := Aside0.mk (Kd.R_below (sqR HO_4.out) hb); have n2_ := Aside0.mk (below_step sqB hb); clear HO_3; clear HO_4; clear HB; have HO_3 := n0_; have HO_4 := n1_; have HB := n2_; clear n0_ n1_ n2_; (try clear hb); (try clear hb2); (try clear hk); (try clear hi); obtain ⟨Ao34, co34, eo34⟩ := Kd.R_slice HO_4.out; subst eo34) | (go_at_call 19; (with_reducible refine (endonymref2_Sum.calls k1 _ _ t715 t729 _ ?side1 ?side2 A20.out).mono ?_); (case side1 => exact sqC_ (Kd.R_reads' HO_4.out).2.2); (case side2 => exact (Kd.R_reads' HO_4.out).2.1); rintro e w35 ⟨rfl, hb⟩; have n0_ := Aside0.mk (Kd.R_below (sqR HO_3.out) hb); have n1_ := Aside0.mk (Kd.R_below (sqR HO_4.out) hb); have n2_ := Aside0.mk (below_step sqB hb); clear HO_3; clear HO_4; clear HB; have HO_3 := n0_; have HO_4 := n1_; have HB := n2_; clear n0_ n1_ n2_; (try clear hb); (try clear hb2); (try clear hk); (try clear hi)) | (go_at_call 18; (with_reducible refine (endonymlaw2_same.calls t720 t729 true _ A21.out).mono ?_); rintro e w' ⟨rfl, ⟨nd, rfl⟩⟩; (try first | exact ⟨rfl, _, World.drewN_drewN _ _ _⟩ | exact ⟨rfl, _, Eq.trans (World.drewN_drewN _ _ _) (congrArg (World.drewN _) (Nat.add_assoc _ _ _))⟩)) | (go_at_call 20; (with_reducible refine (endonymref2_Pairs.calls k1 _ _ t715 t731 _ ?side1 ?side2 A23.out).mono ?_); (case side1 => exact sqC_ (Kd.R_reads' HO_4.out).2.2); (case side2 => exact (Kd.R_reads' HO_4.out).2.1); rintro e w36 ⟨rfl, hb⟩; have n0_ := Aside0.mk (Kd.R_below (sqR HO_3.out) hb); have n1_ := Aside0.mk (Kd.R_below (sqR HO_4.out) hb); have n2_ := Aside0.mk (below_step sqB hb); clear HO_3; clear HO_4; clear HB; have HO_3 := n0_; have HO_4 := n1_; have HB := n2_; clear n0_ n1_ n2_; (try clear hb); (try clear hb2); (try clear hk); (try clear hi)) | (go_at_call 18; (with_reducible refine (endonymlaw2_same.calls t721 t731 false _ A24.out).mono ?_); rintro e w' ⟨rfl, ⟨nd, rfl⟩⟩; (try first | exact ⟨rfl, _, World.drewN_drewN _ _ _⟩ | exact ⟨rfl, _, Eq.trans (World.drewN_drewN _ _ _) (congrArg (World.drewN _) (Nat.add_assoc _ _ _))⟩))))
     go_ret
     exact ⟨sqE', sqB⟩
    subst c25
    have H1 : ((endonymref2_Exact.f k1 t715).bind fun t733 => ((endonymlaw2_same.f t722 t733).bind fun t734 => (some t734))) = some r := by rw [if_pos rfl] at H; exact H
    clear H
    have H := H1
    clear H1
    obtain ⟨t733, A26, H⟩ := sqO H
    try dsimp only at H
    obtain ⟨t734, A27, H⟩ := sqO H
    try dsimp only at H
    obtain rfl := Option.some.inj H
    go_wp2_with (first | (go_at_call 9; (with_reducible refine (endonymlaw2_told.calls k1  true _ ⟨htab.out.below sqB⟩ A18.out).mono ?_); rintro e w28 ⟨rfl, hb⟩; have n0_ := Aside0.mk (Kd.R_below (sqR HO_3.out) hb); have n1_ := Aside0.mk (Kd.R_below (sqR HO_4.out) hb); have n2_ := Aside0.mk (below_step sqB hb); clear HO_3; clear HO_4; clear HB; have HO_3 := n0_; have HO_4 := n1_; have HB := n2_; clear n0_ n1_ n2_; (try clear hb); (try clear hb2); (try clear hk); (try clear hi); obtain ⟨Ao29, co29, eo29⟩ := Kd.R_slice HO_4.out; subst eo29) | (go_at_call 19; (with_reducible refine (endonymref2_Sum.calls k1 _ _ t715 t729 _ ?side1 ?side2 A20.out).mono ?_); (case side1 => exact sqC_ (Kd.R_reads' HO_4.out).2.2); (case side2 => exact (Kd.R_reads' HO_4.out).2.1); rintro e w30 ⟨rfl, hb⟩; have n0_ := Aside0.mk (Kd.R_below (sqR HO_3.out) hb); have n1_ := Aside0.mk (Kd.R_below (sqR HO_4.out) hb); have n2_ := Aside0.mk (below_step sqB hb); clear HO_3; clear HO_4; clear HB; have HO_3 := n0_; have HO_4 := n1_; have HB := n2_; clear n0_ n1_ n2_; (try clear hb); (try clear hb2); (try clear hk); (try clear hi)) | (go_at_call 18; (with_reducible refine (endonymlaw2_same.calls t720 t729 true _ A21.out).mono ?_); rintro e w' ⟨rfl, ⟨nd, rfl⟩⟩; (try first | exact ⟨rfl, _, World.drewN_drewN _ _ _⟩ | exact ⟨rfl, _, Eq.trans (World.drewN_drewN _ _ _) (congrArg (World.drewN _) (Nat.add_assoc _ _ _))⟩)) | (go_at_call 20; (with_reducible refine (endonymref2_Pairs.calls k1 _ _ t715 t731 _ ?side1 ?side2 A23.out).mono ?_); (case side1 => exact sqC_ (Kd.R_reads' HO_4.out).2.2); (case side2 => exact (Kd.R_reads' HO_4.out).2.1); rintro e w31 ⟨rfl, hb⟩; have n0_ := Aside0.mk (Kd.R_below (sqR HO_3.out) hb); have n1_ := Aside0.mk (Kd.R_below (sqR HO_4.out) hb); have n2_ := Aside0.mk (below_step sqB hb); clear HO_3; clear HO_4; clear HB; have HO_3 := n0_; have HO_4 := n1_; have HB := n2_; clear n0_ n1_ n2_; (try clear hb); (try clear hb2); (try clear hk); (try clear hi)) | (go_at_call 18; (with_reducible refine (endonymlaw2_same.calls t721 t731 true _ A24.out).mono ?_); rintro e w' ⟨rfl, ⟨nd, rfl⟩⟩; (try first | exact ⟨rfl, _, World.drewN_drewN _ _ _⟩ | exact ⟨rfl, _, Eq.trans (World.drewN_drewN _ _ _) (congrArg (World.drewN _) (Nat.add_assoc _ _ _))⟩)) | (go_at_call 21; (with_reducible refine (endonymref2_Exact.calls k1 _ _ t715 t733 _ ?side1 ?side2 A26.out).mono ?_); (case side1 => exact sqC_ (Kd.R_reads' HO_4.out).2.2); (case side2 => exact (Kd.R_reads' HO_4.out).2.1); rintro e w32 ⟨rfl, hb⟩; have n0_ := Aside0.mk (Kd.R_below (sqR HO_3.out) hb); have n1_ := Aside0.mk (Kd.R_below (sqR HO_4.out) hb); have n2_ := Aside0.mk (below_step sqB hb); clear HO_3; clear HO_4; clear HB; have HO_3 := n0_; have HO_4 := n1_; have HB := n2_; clear n0_ n1_ n2_; (try clear hb); (try clear hb2); (try clear hk); (try clear hi)) | (go_at_call 18; (with_reducible refine (endonymlaw2_same.calls t722 t733 t734 _ A27.out).mono ?_); rintro e w' ⟨rfl, ⟨nd, rfl⟩⟩; (try first | exact ⟨rfl, _, World.drewN_drewN _ _ _⟩ | exact ⟨rfl, _, Eq.trans (World.drewN_drewN _ _ _) (congrArg (World.drewN _) (Nat.add_assoc _ _ _))⟩)))
    repeat (go_quiet (first | (go_at_call 9; (with_reducible refine (endonymlaw2_told.calls k1  true _ ⟨htab.out.below sqB⟩ A18.out).mono ?_); rintro e w28 ⟨rfl, hb⟩; have n0_ := Aside0.mk (Kd.R_below (sqR HO_3.out) hb); have n1_ := Aside0.mk (Kd.R_below (sqR HO_4.out) hb); have n2_ := Aside0.mk (below_step sqB hb); clear HO_3; clear HO_4; clear HB; have HO_3 := n0_; have HO_4 := n1_; have HB := n2_; clear n0_ n1_ n2_; (try clear hb); (try clear hb2); (try clear hk); (try clear hi); obtain ⟨Ao29, co29, eo29⟩ := Kd.R_slice HO_4.out; subst eo29) | (go_at_call 19; (with_reducible refine (endonymref2_Sum.calls k1 _ _ t715 t729 _ ?side1 ?side2 A20.out).mono ?_); (case side1 => exact sqC_ (Kd.R_reads' HO_4.out).2.2); (case side2 => exact (Kd.R_reads' HO_4.out).2.1); rintro e w30 ⟨rfl, hb⟩; have n0_ := Aside0.mk (Kd.R_below (sqR HO_3.out) hb); have n1_ := Aside0.mk (Kd.R_below (sqR HO_4.out) hb); have n2_ := Aside0.mk (below_step sqB hb); clear HO_3; clear HO_4; clear HB; have HO_3 := n0_; have HO_4 := n1_; have HB := n2_; clear n0_ n1_ n2_; (try clear hb); (try clear hb2); (try clear hk); (try clear hi)) | (go_at_call 18; (with_reducible refine (endonymlaw2_same.calls t720 t729 true _ A21.out).mono ?_); rintro e w' ⟨rfl, ⟨nd, rfl⟩⟩; (try first | exact ⟨rfl, _, World.drewN_drewN _ _ _⟩ | exact ⟨rfl, _, Eq.trans (World.drewN_drewN _ _ _) (congrArg (World.drewN _) (Nat.add_assoc _ _ _))⟩)) | (go_at_call 20; (with_reducible refine (endonymref2_Pairs.calls k1 _ _ t715 t731 _ ?side1 ?side2 A23.out).mono ?_); (case side1 => exact sqC_ (Kd.R_reads' HO_4.out).2.2); (case side2 => exact (Kd.R_reads' HO_4.out).2.1); rintro e w31 ⟨rfl, hb⟩; have n0_ := Aside0.mk (Kd.R_below (sqR HO_3.out) hb); have n1_ := Aside0.mk (Kd.R_below (sqR HO_4.out) hb); have n2_ := Aside0.mk (below_step sqB hb); clear HO_3; clear HO_4; clear HB; have HO_3 := n0_; have HO_4 := n1_; have HB := n2_; clear n0_ n1_ n2_; (try clear hb); (try clear hb2); (try clear hk); (try clear hi)) | (go_at_call 18; (with_reducible refine (endonymlaw2_same.calls t721 t731 true _ A24.out).mono ?_); rintro e w' ⟨rfl, ⟨nd, rfl⟩⟩; (try first | exact ⟨rfl, _, World.drewN_drewN _ _ _⟩ | exact ⟨rfl, _, Eq.trans (World.drewN_drewN _ _ _) (congrArg (World.drewN _) (Nat.add_assoc _ _ _))⟩)) | (go_at_call 21; (with_reducible refine (endonymref2_Exact.calls k1 _ _ t715 t733 _ ?side1 ?side2 A26.out).mono ?_); (case side1 => exact sqC_ (Kd.R_reads' HO_4.out).2.2); (case side2 => exact (Kd.R_reads' HO_4.out).2.1); rintro e w32 ⟨rfl, hb⟩; have n0_ := Aside0.mk (Kd.R_below (sqR HO_3.out) hb); have n1_ := Aside0.mk (Kd.R_below (sqR HO_4.out) hb); have n2_ := Aside0.mk (below_step sqB hb); clear HO_3; clear HO_4; clear HB; have HO_3 := n0_; have HO_4 := n1_; have HB := n2_; clear n0_ n1_ n2_; (try clear hb); (try clear hb2); (try clear hk); (try clear hi)) | (go_at_call 18; (with_reducible refine (endonymlaw2_same.calls t722 t733 t734 _ A27.out).mono ?_); rintro e w' ⟨rfl, ⟨nd, rfl⟩⟩; (try first | exact ⟨rfl, _, World.drewN_drewN _ _ _⟩ | exact ⟨rfl, _, Eq.trans (World.drewN_drewN _ _ _) (congrArg (World.drewN _) (Nat.add_assoc _ _ _))⟩))); try go_wp2_with (first | (go_at_call 9; (with_reducible refine (endonymlaw2_told.calls k1  true _ ⟨htab.out.below sqB⟩ A18.out).mono ?_); rintro e w28 ⟨rfl, hb⟩; have n0_ := Aside0.mk (Kd.R_below (sqR HO_3.out) hb); have n1_ := Aside0.mk (Kd.R_below (sqR HO_4.out) hb); have n2_ := Aside0.mk (below_step sqB hb); clear HO_3; clear HO_4; clear HB; have HO_3 := n0_; have HO_4 := n1_; have HB := n2_; clear n0_ n1_ n2_; (try clear hb); (try clear hb2); (try clear hk); (try clear hi); obtain ⟨Ao29, co29, eo29⟩ := Kd.R_slice HO_4.out; subst eo29) | (go_at_call 19; (with_reducible refine (endonymref2_Sum.calls k1 _ _ t715 t729 _ ?side1 ?side2 A20.out).mono ?_); (case side1 => exact sqC_ (Kd.R_reads' HO_4.out).2.2); (case side2 => exact (Kd.R_reads' HO_4.out).2.1); rintro e w30 ⟨rfl, hb⟩; have n0_ := Aside0.mk (Kd.R_below (sqR HO_3.out) hb); have n1_ := Aside0.mk (Kd.R_below (sqR HO_4.out) hb); have n2_ := Aside0.mk (below_step sqB hb); clear HO_3; clear HO_4; clear HB; have HO_3 := n0_; have HO_4 := n1_; have HB := n2_; clear n0_ n1_ n2_; (try clear hb); (try clear hb2); (try clear hk); (try clear hi)) | (go_at_call 18; (with_reducible refine (endonymlaw2_same.calls t720 t729 true _ A21.out).mono ?_); rintro e w' ⟨rfl, ⟨nd, rfl⟩⟩; (try first | exact ⟨rfl, _, World.drewN_drewN _ _ _⟩ | exact ⟨rfl, _, Eq.trans (World.drewN_drewN _ _ _) (congrArg (World.drewN _) (Nat.add_assoc _ _ _))⟩)) | (go_at_call 20; (with_reducible refine (endonymref2_Pairs.calls k1 _ _ t715 t731 _ ?side1 ?side2 A23.out).mono ?_); (case side1 => exact sqC_ (Kd.R_reads' HO_4.out).2.2); (case side2 => exact (Kd.R_reads' HO_4.out).2.1); rintro e w31 ⟨rfl, hb⟩; have n0_ := Aside0.mk (Kd.R_below (sqR HO_3.out) hb); have n1_ := Aside0.mk (Kd.R_below (sqR HO_4.out) hb); have n2_ := Aside0.mk (below_step sqB hb); clear HO_3; clear HO_4; clear HB; have HO_3 := n0_; have HO_4 := n1_; have HB := n2_; clear n0_ n1_ n2_; (try clear hb); (try clear hb2); (try clear hk); (try clear hi)) | (go_at_call 18; (with_reducible refine (endonymlaw2_same.calls t721 t731 true _ A24.out).mono ?_); rintro e w' ⟨rfl, ⟨nd, rfl⟩⟩; (try first | exact ⟨rfl, _, World.drewN_drewN _ _ _⟩ | exact ⟨rfl, _, Eq.trans (World.drewN_drewN _ _ _) (congrArg (World.drewN _) (Nat.add_assoc _ _ _))⟩)) | (go_at_call 21; (with_reducible refine (endonymref2_Exact.calls k1 _ _ t715 t733 _ ?side1 ?side2 A26.out).mono ?_); (case side1 => exact sqC_ (Kd.R_reads' HO_4.out).2.2); (case side2 => exact (Kd.R_reads' HO_4.out).2.1); rintro e w32 ⟨rfl, hb⟩; have n0_ := Aside0.mk (Kd.R_below (sqR HO_3.out) hb); have n1_ := Aside0.mk (Kd.R_below (sqR HO_4.out) hb); have n2_ := Aside0.mk (below_step sqB hb); clear HO_3; clear HO_4; clear HB; have HO_3 := n0_; have HO_4 := n1_; have HB := n2_; clear n0_ n1_ n2_; (try clear hb); (try clear hb2); (try clear hk); (try clear hi)) | (go_at_call 18; (with_reducible refine (endonymlaw2_same.calls t722 t733 t734 _ A27.out).mono ?_); rintro e w' ⟨rfl, ⟨nd, rfl⟩⟩; (try first | exact ⟨rfl, _, World.drewN_drewN _ _ _⟩ | exact ⟨rfl, _, Eq.trans (World.drewN_drewN _ _ _) (congrArg (World.drewN _) (Nat.add_assoc _ _ _))⟩))))
    go_ret
    exact ⟨sqE', sqB⟩
   rw [if_pos c10] at H
   have c10b0 := decide_eq_true c10
   clear c10
   by_cases c11 : 0 ≤ x8_1
   case neg => rw [if_neg c11] at H; exact absurd H (by simp)
   rw [if_pos c11] at H
   have c11b0 := decide_eq_true c11
   clear c11
   by_cases c12 : (FloatKind.f64.format.order (rdOf 0 t714 x8_1) (rdOf 0 t714 x8_1) == some .eq) = true
   case neg =>
    rw [if_neg c12] at H
    have c12b0 : (FloatKind.f64.format.order (rdOf 0 t714 x8_1) (rdOf 0 t714 x8_1) == some .eq) = false := by simpa using c12
    (try (have c12b1 : decide (FloatKind.f64.format.order (rdOf 0 t714 x8_1) (rdOf 0 t714 x8_1) = some .eq) = false := by simpa using c12))
    (try (have c12b2 : (FloatKind.f64.format.order (rdOf 0 t714 x8_1) (rdOf 0 t714 x8_1) == some .eq) = false := by simpa using c12))
    (try (have c12b3 : ¬ (FloatKind.f64.format.order (rdOf 0 t714 x8_1) (rdOf 0 t714 x8_1) = some .eq) := by simpa using c12))
    clear c12
    have H' := Aside0.mk H
    clear H
    have p723 : 0 ≤ (x8_1 : Int) := sqD
    have q723 : x8_1 < (t714.length : Int) := sqD
    obtain ⟨ad723, e723, hx723_0⟩ := Kd.at_flt (Kd.R_reads' HO_3.out).2.2 x8_1 p723 q723
    cases e723
    replace p723 := eq_true p723
    replace q723 := eq_true q723
    have p724 : 0 ≤ (x8_1 : Int) := sqD
    have q724 : x8_1 < (t714.length : Int) := sqD
    obtain ⟨ad724, e724, hx724_0⟩ := Kd.at_flt (Kd.R_reads' HO_3.out).2.2 x8_1 p724 q724
    obtain rfl : ad723 = ad724 := (by injection e724)
    replace p724 := eq_true p724
    replace q724 := eq_true q724
    go_wp2
    repeat (go_quiet (fail); try go_wp2)
    go_roundg k1
    case measure => have := HK1.out; omega
    case rel => exact ⟨(wrap64 (x8_1 + 1)), sqE, H', ⟨by have := HK1.out; omega⟩, ⟨sqR HO_3.out⟩, ⟨sqR HO_4.out⟩, ⟨sqB⟩⟩
   rw [if_pos c12] at H
   have c12b0 : (FloatKind.f64.format.order (rdOf 0 t714 x8_1) (rdOf 0 t714 x8_1) == some .eq) = true := c12
   (try (have c12b1 : decide (FloatKind.f64.format.order (rdOf 0 t714 x8_1) (rdOf 0 t714 x8_1) = some .eq) = true := by simpa using c12))
   (try (have c12b2 : (FloatKind.f64.format.order (rdOf 0 t714 x8_1) (rdOf 0 t714 x8_1) == some .eq) = true := by simpa using c12))
   clear c12
   obtain ⟨t726, A13, H⟩ := sqO H
   try dsimp only at H
   by_cases c14 : x8_1 < (t715.length : Int)
   case neg => rw [if_neg c14] at H; exact absurd H (by simp)
   rw [if_pos c14] at H
   have c14b0 := decide_eq_true c14
   clear c14
   by_cases c15 : t726 = (rd t715 x8_1)
   case neg =>
    rw [if_neg c15] at H
    have c15b0 := beq_eq_false_iff_ne.mpr c15
    have c15b1 := bne_iff_ne.mpr c15
    obtain rfl := Option.some.inj H
    have p723 : 0 ≤ (x8_1 : Int) := sqD
    have q723 : x8_1 < (t714.length : Int) := sqD
    obtain ⟨ad723, e723, hx723_0⟩ := Kd.at_flt (Kd.R_reads' HO_3.out).2.2 x8_1 p723 q723
    cases e723
    replace p723 := eq_true p723
    replace q723 := eq_true q723
    have p724 : 0 ≤ (x8_1 : Int) := sqD
    have q724 : x8_1 < (t714.length : Int) := sqD
    obtain ⟨ad724, e724, hx724_0⟩ := Kd.at_flt (Kd.R_reads' HO_3.out).2.2 x8_1 p724 q724
    obtain rfl : ad723 = ad724 := (by injection e724)
    replace p724 := eq_true p724
    replace q724 := eq_true q724
    have p725 : 0 ≤ (x8_1 : Int) := sqD
    have q725 : x8_1 < (t714.length : Int) := sqD
    obtain ⟨ad725, e725, hx725_0⟩ := Kd.at_flt (Kd.R_reads' HO_3.out).2.2 x8_1 p725 q725
    obtain rfl : ad723 = ad725 := (by injection e725)
    replace p725 := eq_true p725
    replace q725 := eq_true q725
    go_wp2_with (first | (go_at_call 10; (with_reducible refine (api_Bits.calls (rdOf 0 t714 x8_1) t726 _ A13.out).mono ?_); rintro e w' ⟨rfl, ⟨nd, rfl⟩⟩; (try first | exact ⟨rfl, _, World.drewN_drewN _ _ _⟩ | exact ⟨rfl, _, Eq.trans (World.drewN_drewN _ _ _) (congrArg (World.drewN _) (Nat.add_assoc _ _ _))⟩); obtain ⟨Ao17, co17, eo17⟩ := Kd.R_slice HO_4.out; subst eo17; have p727 : 0 ≤ (x8_1 : Int) := sqD; have q727 : x8_1 < (t715.length : Int) := sqD; obtain ⟨ad727, e727, hx727_0⟩ := Kd.at_int (Kd.R_reads' HO_4.out).2.2 x8_1 p727 q727; cases e727; replace p727 := eq_true p727; replace q727 := eq_true q727))
    repeat (go_quiet (first | (go_at_call 10; (with_reducible refine (api_Bits.calls (rdOf 0 t714 x8_1) t726 _ A13.out).mono ?_); rintro e w' ⟨rfl, ⟨nd, rfl⟩⟩; (try first | exact ⟨rfl, _, World.drewN_drewN _ _ _⟩ | exact ⟨rfl, _, Eq.trans (World.drewN_drewN _ _ _) (congrArg (World.drewN _) (Nat.add_assoc _ _ _))⟩); obtain ⟨Ao17, co17, eo17⟩ := Kd.R_slice HO_4.out; subst eo17; have p727 : 0 ≤ (x8_1 : Int) := sqD; have q727 : x8_1 < (t715.length : Int) := sqD; obtain ⟨ad727, e727, hx727_0⟩ := Kd.at_int (Kd.R_reads' HO_4.out).2.2 x8_1 p727 q727; cases e727; replace p727 := eq_true p727; replace q727 := eq_true q727)); try go_wp2_with (first | (go_at_call 10; (with_reducible refine (api_Bits.calls (rdOf 0 t714 x8_1) t726 _ A13.out).mono ?_); rintro e w' ⟨rfl, ⟨nd, rfl⟩⟩; (try first | exact ⟨rfl, _, World.drewN_drewN _ _ _⟩ | exact ⟨rfl, _, Eq.trans (World.drewN_drewN _ _ _) (congrArg (World.drewN _) (Nat.add_assoc _ _ _))⟩); obtain ⟨Ao17, co17, eo17⟩ := Kd.R_slice HO_4.out; subst eo17; have p727 : 0 ≤ (x8_1 : Int) := sqD; have q727 : x8_1 < (t715.length : Int) := sqD; obtain ⟨ad727, e727, hx727_0⟩ := Kd.at_int (Kd.R_reads' HO_4.out).2.2 x8_1 p727 q727; cases e727; replace p727 := eq_true p727; replace q727 := eq_true q727)))
    go_ret
    exact ⟨sqE', sqB⟩
   rw [if_pos c15] at H
   have c15b0 := beq_iff_eq.mpr c15
   have c15b1 := bne_eq_false_iff_eq.mpr c15
   clear c15
   have H' := Aside0.mk H
   clear H
   have p723 : 0 ≤ (x8_1 : Int) := sqD
   have q723 : x8_1 < (t714.length : Int) := sqD
   obtain ⟨ad723, e723, hx723_0⟩ := Kd.at_flt (Kd.R_reads' HO_3.out).2.2 x8_1 p723 q723
   cases e723
   replace p723 := eq_true p723
   replace q723 := eq_true q723
   have p724 : 0 ≤ (x8_1 : Int) := sqD
   have q724 : x8_1 < (t714.length : Int) := sqD
   obtain ⟨ad724, e724, hx724_0⟩ := Kd.at_flt (Kd.R_reads' HO_3.out).2.2 x8_1 p724 q724
   obtain rfl : ad723 = ad724 := (by injection e724)
   replace p724 := eq_true p724
   replace q724 := eq_true q724
   have p725 : 0 ≤ (x8_1 : Int) := sqD
   have q725 : x8_1 < (t714.length : Int) := sqD
   obtain ⟨ad725, e725, hx725_0⟩ := Kd.at_flt (Kd.R_reads' HO_3.out).2.2 x8_1 p725 q725
   obtain rfl : ad723 = ad725 := (by injection e725)
   replace p725 := eq_true p725
   replace q725 := eq_true q725
   go_wp2_with (first | (go_at_call 10; (with_reducible refine (api_Bits.calls (rdOf 0 t714 x8_1) t726 _ A13.out).mono ?_); rintro e w' ⟨rfl, ⟨nd, rfl⟩⟩; (try first | exact ⟨rfl, _, World.drewN_drewN _ _ _⟩ | exact ⟨rfl, _, Eq.trans (World.drewN_drewN _ _ _) (congrArg (World.drewN _) (Nat.add_assoc _ _ _))⟩); obtain ⟨Ao16, co16, eo16⟩ := Kd.R_slice HO_4.out; subst eo16; have p727 : 0 ≤ (x8_1 : Int) := sqD; have q727 : x8_1 < (t715.length : Int) := sqD; obtain ⟨ad727, e727, hx727_0⟩ := Kd.at_int (Kd.R_reads' HO_4.out).2.2 x8_1 p727 q727; cases e727; replace p727 := eq_true p727; replace q727 := eq_true q727))
   repeat (go_quiet (first | (go_at_call 10; (with_reducible refine (api_Bits.calls (rdOf 0 t714 x8_1) t726 _ A13.out).mono ?_); rintro e w' ⟨rfl, ⟨nd, rfl⟩⟩; (try first | exact ⟨rfl, _, World.drewN_drewN _ _ _⟩ | exact ⟨rfl, _, Eq.trans (World.drewN_drewN _ _ _) (congrArg (World.drewN _) (Nat.add_assoc _ _ _))⟩); obtain ⟨Ao16, co16, eo16⟩ := Kd.R_slice HO_4.out; subst eo16; have p727 : 0 ≤ (x8_1 : Int) := sqD; have q727 : x8_1 < (t715.length : Int) := sqD; obtain ⟨ad727, e727, hx727_0⟩ := Kd.at_int (Kd.R_reads' HO_4.out).2.2 x8_1 p727 q727; cases e727; replace p727 := eq_true p727; replace q727 := eq_true q727)); try go_wp2_with (first | (go_at_call 10; (with_reducible refine (api_Bits.calls (rdOf 0 t714 x8_1) t726 _ A13.out).mono ?_); rintro e w' ⟨rfl, ⟨nd, rfl⟩⟩; (try first | exact ⟨rfl, _, World.drewN_drewN _ _ _⟩ | exact ⟨rfl, _, Eq.trans (World.drewN_drewN _ _ _) (congrArg (World.drewN _) (Nat.add_assoc _ _ _))⟩); obtain ⟨Ao16, co16, eo16⟩ := Kd.R_slice HO_4.out; subst eo16; have p727 : 0 ≤ (x8_1 : Int) := sqD; have q727 : x8_1 < (t715.length : Int) := sqD; obtain ⟨ad727, e727, hx727_0⟩ := Kd.at_int (Kd.R_reads' HO_4.out).2.2 x8_1 p727 q727; cases e727; replace p727 := eq_true p727; replace q727 := eq_true q727)))
   go_roundg k1
   case measure => have := HK1.out; omega
   case rel => exact ⟨(wrap64 (x8_1 + 1)), sqE, H', ⟨by have := HK1.out; omega⟩, ⟨sqR HO_3.out⟩, ⟨sqR HO_4.out⟩, ⟨sqB⟩⟩
end Go.Proofs.YtfmjdoofopamkaaGreatDoor.W
