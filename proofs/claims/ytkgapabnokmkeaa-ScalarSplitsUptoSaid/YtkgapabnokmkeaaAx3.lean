import Derived.Test.YtkgapabnokmkeaaAx0
import Derived.Test.YtkgapabnokmkeaaKeep
import Derived.Test.YtkgapabnokmkeaaAx1
import Derived.Test.YtkgapabnokmkeaaAx2
namespace Go.Proofs.Ytkgapabnokmkeaa.A
open Go.RowKit Go.Proofs.YtkgapabnokmkeaaW.PrintWords Go.Proofs.YtkgapabnokmkeaaW.PrintLast Go.Proofs.YtkgapabnokmkeaaW.PrintMore
set_option maxHeartbeats 8000000
set_option maxRecDepth 100000
attribute [local go_sem] max2_int min2_int max_two min_two max_three min_three max_four min_four
set_option linter.unusedVariables false
set_option linter.unusedSimpArgs false
/-! The law's first loop, on l's rows. -/
mutual
def Splits1.l0 : Nat → List (List Int) → Int → Option (List (List Int))
 | 0, _, _ => none
 | k + 1, x4, x6 => if x6 < (x4.length : Int) then (Splits1.l1 k x4 x6 0) else (some x4)
def Splits1.l1 : Nat → List (List Int) → Int → Int → Option (List (List Int))
 | 0, _, _, _ => none
 | k + 1, x4, x6, x7 => if 0 ≤ x6 then (if x6 < (x4.length : Int) then (if x7 < ((rd_L1 x4 x6).length : Int) then (if 0 ≤ x7 then (Splits1.l1 k (x4.set (x6 : Int).toNat ((rd_L1 x4 x6).set (x7 : Int).toNat (-9))) x6 (wrap64 (x7 + 1))) else (none)) else ((some (([(-9), (-9)] : List Int) : List Int)).bind fun y209 => (if (rd_L1 x4 x6).length + y209.length < 35184372088832 then (Splits1.l0 k (x4.set (x6 : Int).toNat ((rd_L1 x4 x6) ++ y209)) (wrap64 (x6 + 1))) else (none)))) else (none)) else (none)
end
theorem Splits1.mono_l : ∀ k, (∀ y0 y1, LeO (Splits1.l0 k y0 y1) (Splits1.l0 (k + 1) y0 y1)) ∧ (∀ y0 y1 y2, LeO (Splits1.l1 k y0 y1 y2) (Splits1.l1 (k + 1) y0 y1 y2))
 | 0 => ⟨fun _ _ r h => by simp [Splits1.l0] at h, fun _ _ _ r h => by simp [Splits1.l1] at h⟩
 | k + 1 => by
  obtain ⟨ih0, ih1⟩ := Splits1.mono_l k
  refine ⟨?_, ?_⟩
  ·intro y0 y1
   unfold Splits1.l0
   repeat' first | (with_reducible first | apply ih0 | apply ih1 | apply LeO.refl | apply LeO.none | refine LeO.ite ?_ ?_ | refine LeO.bind ?_ (fun _ => ?_)) | apply LeO.none | refine LeO.ite ?_ ?_ | refine LeO.bind ?_ (fun _ => ?_)
  intro y0 y1 y2
  unfold Splits1.l1
  repeat' first | (with_reducible first | apply ih0 | apply ih1 | apply LeO.refl | apply LeO.none | refine LeO.ite ?_ ?_ | refine LeO.bind ?_ (fun _ => ?_)) | apply LeO.none | refine LeO.ite ?_ ?_ | refine LeO.bind ?_ (fun _ => ?_)
theorem Splits1.mono0 (k : Nat) (y0 : List (List Int)) (y1 : Int) : LeO (Splits1.l0 k y0 y1) (Splits1.l0 (k + 1) y0 y1) := (Splits1.mono_l k).1 y0 y1
mutual
def endonymlaw3_ScalarSplits.j0 : Nat → List Int → List Int → List (List Int) → List (List Int) → Bool → Option (Bool)
 | 0, _, _, _, _, _ => none
 | k + 1, x0, x3, x4, x5, x28 => if x28 = true then (some false) else ((Splits1.l0 k x4 0).bind fun yl => (endonymlaw3_ScalarSplits.l0 k x0 x3 yl x5 0))
def endonymlaw3_ScalarSplits.l0 : Nat → List Int → List Int → List (List Int) → List (List Int) → Int → Option (Bool)
 | 0, _, _, _, _, _ => none
 | k + 1, x0, x3, x4, x5, x8 => if x8 < (x4.length : Int) then (if 0 ≤ x8 then (if x8 < (x5.length : Int) then (if ((rd_L1 x4 x8).length : Int) = (wrap64 (((rd_L1 x5 x8).length : Int) + 2)) then (if 0 ≤ ((rd_L1 x5 x8).length : Int) then (if ((rd_L1 x5 x8).length : Int) < ((rd_L1 x4 x8).length : Int) then (if (rd (rd_L1 x4 x8) ((rd_L1 x5 x8).length : Int)) = (-9) then (endonymlaw3_ScalarSplits.l0 k x0 x3 x4 x5 (wrap64 (x8 + 1))) else (some false)) else (none)) else (none)) else (some false)) else (none)) else (none)) else ((endonymlaw3_whole.f k x3 x0).bind fun t213 => (if t213 = true then ((scalar_Split.f k x3).bind fun t214 => ((endonymref3_SameAll.f k t214 x5).bind fun t217 => (some t217))) else (some false)))
end
def endonymlaw3_ScalarSplits.f (k : Nat) (l0 : List Int) : Option (Bool) := (endonymlaw3_roomy.f l0).bind fun t196 => ((scalar_Split.f k t196).bind fun t199 => ((endonymref3_Split.f k l0).bind fun t202 => ((endonymlaw3_told.f k).bind fun t205 => (if t205 = true then ((endonymref3_SameAll.f k t199 t202).bind fun t206 => (if t206 = true then ((endonymlaw3_whole.f k t196 l0).bind fun t207 => (endonymlaw3_ScalarSplits.j0 k l0 t196 t199 t202 (!t207))) else (endonymlaw3_ScalarSplits.j0 k l0 t196 t199 t202 true))) else (endonymlaw3_ScalarSplits.j0 k l0 t196 t199 t202 true)))))
theorem endonymlaw3_ScalarSplits.mono_l : ∀ k, (∀ y0 y1 y2 y3 y4, LeO (endonymlaw3_ScalarSplits.j0 k y0 y1 y2 y3 y4) (endonymlaw3_ScalarSplits.j0 (k + 1) y0 y1 y2 y3 y4)) ∧ (∀ y0 y1 y2 y3 y4, LeO (endonymlaw3_ScalarSplits.l0 k y0 y1 y2 y3 y4) (endonymlaw3_ScalarSplits.l0 (k + 1) y0 y1 y2 y3 y4))
 | 0 => ⟨fun _ _ _ _ _ r h => by simp [endonymlaw3_ScalarSplits.j0] at h, fun _ _ _ _ _ r h => by simp [endonymlaw3_ScalarSplits.l0] at h⟩
 | k + 1 => by
  obtain ⟨ih0, ih1⟩ := endonymlaw3_ScalarSplits.mono_l k
  refine ⟨?_, ?_⟩
  ·intro y0 y1 y2 y3 y4
   unfold endonymlaw3_ScalarSplits.j0
   repeat' first | (with_reducible first | apply ih0 | apply ih1 | apply endonymlaw3_told.mono | apply Splits1.mono0 | apply endonymlaw3_whole.mono | apply endonymref3_SameAll.mono | apply endonymref3_Split.mono | apply scalar_Split.mono | apply LeO.refl | apply LeO.none | refine LeO.ite ?_ ?_ | refine LeO.bind ?_ (fun _ => ?_)) | apply LeO.none | refine LeO.ite ?_ ?_ | refine LeO.bind ?_ (fun _ => ?_)
  intro y0 y1 y2 y3 y4
  unfold endonymlaw3_ScalarSplits.l0
  repeat' first | (with_reducible first | apply ih0 | apply ih1 | apply endonymlaw3_told.mono | apply Splits1.mono0 | apply endonymlaw3_whole.mono | apply endonymref3_SameAll.mono | apply endonymref3_Split.mono | apply scalar_Split.mono | apply LeO.refl | apply LeO.none | refine LeO.ite ?_ ?_ | refine LeO.bind ?_ (fun _ => ?_)) | apply LeO.none | refine LeO.ite ?_ ?_ | refine LeO.bind ?_ (fun _ => ?_)
theorem endonymlaw3_ScalarSplits.mono : ∀ a0 k, LeO (endonymlaw3_ScalarSplits.f k a0) (endonymlaw3_ScalarSplits.f (k + 1) a0) := by
 intro a0 k
 obtain ⟨ih0, ih1⟩ := endonymlaw3_ScalarSplits.mono_l k
 unfold endonymlaw3_ScalarSplits.f
 repeat' first | (with_reducible first | apply ih0 | apply ih1 | apply endonymlaw3_told.mono | apply Splits1.mono0 | apply endonymlaw3_whole.mono | apply endonymref3_SameAll.mono | apply endonymref3_Split.mono | apply scalar_Split.mono | apply LeO.refl | apply LeO.none | refine LeO.ite ?_ ?_ | refine LeO.bind ?_ (fun _ => ?_)) | apply LeO.none | refine LeO.ite ?_ ?_ | refine LeO.bind ?_ (fun _ => ?_)
theorem endonymlaw3_ScalarSplits.calls (k : Nat) (A0 : Option Addr) (c0 : Nat) (l0 : List Int) (r : Bool) (w : World) (hr0 : Kd.C (Kd.int .i32) w A0 l0.length l0) (hc0 : l0.length ≤ c0) (h : endonymlaw3_ScalarSplits.f k l0 = some r) :
  Calls Try.prog 3 #[.slice A0 l0.length c0] w fun e w' => e = .returned (.bool r) ∧ Below w.heap.size w w' := by
 have HR0 := Aside0.mk hr0
 have HC0 := Aside0.mk hc0
 clear hr0 hc0
 have HB := Aside0.mk (Below.refl w.heap.size w)
 have H : ((endonymlaw3_roomy.f l0).bind fun t196 => ((scalar_Split.f k t196).bind fun t199 => ((endonymref3_Split.f k l0).bind fun t202 => ((endonymlaw3_told.f k).bind fun t205 => (if t205 = true then ((endonymref3_SameAll.f k t199 t202).bind fun t206 => (if t206 = true then ((endonymlaw3_whole.f k t196 l0).bind fun t207 => (endonymlaw3_ScalarSplits.j0 k l0 t196 t199 t202 (!t207))) else (endonymlaw3_ScalarSplits.j0 k l0 t196 t199 t202 true))) else (endonymlaw3_ScalarSplits.j0 k l0 t196 t199 t202 true)))))) = some r := h
 clear h
 obtain ⟨t196, A2, H⟩ := sqO H
 try dsimp only at H
 obtain ⟨t199, A3, H⟩ := sqO H
 try dsimp only at H
 obtain ⟨t202, A4, H⟩ := sqO H
 try dsimp only at H
 have HC5 := Aside0.mk H
 clear H
 go_enter Try.func3, Try.ntmps3
 go_upto_region 4 with (first | ((with_reducible refine gate_callee (f := 4) rfl ?_); refine goesL_ (some 10) rfl rfl Try.func4 (by kernel_rfl) rfl #[.slice A0 l0.length c0] rfl sqA ?_; (with_reducible refine (endonymlaw3_roomy.calls _ _ l0 t196 _ ?side1 ?side2 A2.out).mono ?_); (case side1 => repeat (first | exact HR0.out | (with_reducible refine Kd.C_alloc ?_ _) | (with_reducible refine Kd.C_drewN ?_ _) | (with_reducible refine Kd.C_drew ?_))); (case side2 => exact HC0.out); rintro e w6 ⟨v197, rfl, ho0, hb, hrm_⟩; refine ⟨_, rfl, ?_⟩; have HRm := Aside0.mk hrm_; clear hrm_; have n0_ := Aside0.mk (Kd.R_lower ho0 (below_size sqB)); have n1_ := Aside0.mk (below_step sqB hb); clear HB; have HO198 := n0_; have HB := n1_; clear n0_ n1_; (try clear hb); (try clear hb2); (try clear hk); (try clear hi); (try clear ho0); obtain ⟨Ao7, co7, eo7⟩ := Kd.R_slice HO198.out; subst eo7) | ((with_reducible refine gate_callee (f := 5) rfl ?_); refine goesL_ (some 12) rfl rfl Try.func5 (by kernel_rfl) rfl #[.slice Ao7 t196.length co7] rfl sqA ?_; (with_reducible refine (scalar_Split.calls k _ _ t196 t199 _ ?side1 ?side2 A3.out).mono ?_); (case side1 => repeat (first | exact (Kd.R_reads' HO198.out).2.2 | (with_reducible refine Kd.C_alloc ?_ _) | (with_reducible refine Kd.C_drewN ?_ _) | (with_reducible refine Kd.C_drew ?_))); (case side2 => exact (Kd.R_reads' HO198.out).2.1); rintro e w8 ⟨v200, rfl, ho0, hb⟩; refine ⟨_, rfl, ?_⟩; (try (have HRm2 := Aside0.mk (Rm.Room.below (by (with_reducible repeat (first | apply Rm.Room.alloc | apply Rm.Room.drewN | apply Rm.Room.drew)); exact HRm.out) hb); clear HRm; have HRm := HRm2; clear HRm2)); have n0_ := Aside0.mk (Kd.R_below (sqR HO198.out) hb); have n1_ := Aside0.mk (Kd.S_lower (Kd.S_new' ho0 (Kd.R_lt (sqR HO198.out))) (below_size sqB)); have n2_ := Aside0.mk (below_step sqB hb); clear HO198; clear HB; have HO198 := n0_; have HO201 := n1_; have HB := n2_; clear n0_ n1_ n2_; (try clear hb); (try clear hb2); (try clear hk); (try clear hi); (try clear ho0)) | ((with_reducible refine gate_callee (f := 6) rfl ?_); refine goesL_ (some 14) rfl rfl Try.func6 (by kernel_rfl) rfl #[.slice A0 l0.length c0] rfl sqA ?_; (with_reducible refine (endonymref3_Split.calls k _ _ l0 t202 _ ?side1 ?side2 A4.out).mono ?_); (case side1 => repeat (first | exact (Kd.C_below HR0.out HB.out) | (with_reducible refine Kd.C_alloc ?_ _) | (with_reducible refine Kd.C_drewN ?_ _) | (with_reducible refine Kd.C_drew ?_))); (case side2 => exact HC0.out); rintro e w9 ⟨v203, rfl, ho0, hb⟩; refine ⟨_, rfl, ?_⟩; have HAp := Aside0.mk (Rm.Ap.made (Kd.R_lt (sqR HO198.out)) (by (with_reducible repeat (first | apply Kd.S_alloc | apply Kd.S_drewN | apply Kd.S_drew)); exact HO201.out) (by intro _ hk; exact hk.2) ho0 hb (below_size sqB)); (try (have HRm2 := Aside0.mk (Rm.Room.below (by (with_reducible repeat (first | apply Rm.Room.alloc | apply Rm.Room.drewN | apply Rm.Room.drew)); exact HRm.out) hb); clear HRm; have HRm := HRm2; clear HRm2)); have n0_ := Aside0.mk (Kd.R_below (sqR HO198.out) hb); have n1_ := Aside0.mk (Kd.S_elder' (by (with_reducible repeat (first | apply Kd.S_alloc | apply Kd.S_drewN | apply Kd.S_drew)); exact HO201.out) (Kd.S_base ho0) hb); have n2_ := Aside0.mk (Kd.S_lower (Kd.S_new' (Kd.S_new' ho0 (Kd.R_lt (sqR HO198.out))) (Kd.S_lt (by (with_reducible repeat (first | apply Kd.S_alloc | apply Kd.S_drewN | apply Kd.S_drew)); exact HO201.out))) (below_size sqB)); have n3_ := Aside0.mk (below_step sqB hb); clear HO198; clear HO201; clear HB; have HO198 := n0_; have HO201 := n1_; have HO204 := n2_; have HB := n3_; clear n0_ n1_ n2_ n3_; (try clear hb); (try clear hb2); (try clear hk); (try clear hi); (try clear ho0)))
 (try simp only [Act.put, List.setIfInBounds_toArray, List.set_cons_zero, List.set_cons_succ])
 go_cut [28] (fun v28 wc => ∃ (kq : Nat) (x28_4 : Bool), v28 = .bool x28_4 ∧ Aside0 (endonymlaw3_ScalarSplits.j0 kq l0 t196 t199 t202 x28_4 = some r) ∧ Aside0 (kq ≤ k) ∧ Aside0 (Kd.R (Kd.int .i32) 21 wc w.heap.size (fun _ => True) (.slice Ao7 t196.length co7) t196) ∧ Aside0 (Kd.S (Kd.slice 21 (Kd.int .i32)) 22 wc w.heap.size (fun k_ => some k_ ≠ ((.slice Ao7 t196.length co7) : Value).ownBlock) v203 t202) ∧ Aside0 (Rm.Ap wc w.heap.size (.slice Ao7 t196.length co7) v200 v203 t199 t202) ∧ Aside0 (Rm.Room wc (.slice Ao7 t196.length co7) t196.length [.int .i32 (-7), .int .i32 (-8)]) ∧ Aside0 (Below w.heap.size w wc))
 case first =>
  have H := HC5.out
  clear HC5
  obtain ⟨t205, A10, H⟩ := sqO H
  try dsimp only at H
  by_cases c11 : t205 = true
  case neg =>
   replace c11 := Bool.eq_false_iff.mpr c11
   subst c11
   have H1 : (endonymlaw3_ScalarSplits.j0 k l0 t196 t199 t202 true) = some r := by rw [if_neg (show ¬ (false = true) by decide)] at H; exact H
   clear H
   have H := H1
   clear H1
   have H' := Aside0.mk H
   clear H
   go_wp2_with (first | ((with_reducible refine gate_callee (f := 7) rfl ?_); refine goesL_ (some 15) rfl rfl Try.func7 (by kernel_rfl) rfl #[] rfl sqA ?_; (with_reducible refine (endonymlaw3_told.calls k  false _ A10.out).mono ?_); rintro e w21 ⟨rfl, hb⟩; refine ⟨_, rfl, ?_⟩; (try (have HRm2 := Aside0.mk (Rm.Room.below (by (with_reducible repeat (first | apply Rm.Room.alloc | apply Rm.Room.drewN | apply Rm.Room.drew)); exact HRm.out) hb); clear HRm; have HRm := HRm2; clear HRm2)); (try (have HAp2 := Aside0.mk (Rm.Ap.below (by (with_reducible repeat (first | apply Rm.Ap.alloc | apply Rm.Ap.drewN | apply Rm.Ap.drew)); exact HAp.out) hb); clear HAp; have HAp := HAp2; clear HAp2)); have n0_ := Aside0.mk (Kd.R_below (sqR HO198.out) hb); have n1_ := Aside0.mk (Kd.S_below (by (with_reducible repeat (first | apply Kd.S_alloc | apply Kd.S_drewN | apply Kd.S_drew)); exact HO201.out) hb); have n2_ := Aside0.mk (Kd.S_below (by (with_reducible repeat (first | apply Kd.S_alloc | apply Kd.S_drewN | apply Kd.S_drew)); exact HO204.out) hb); have n3_ := Aside0.mk (below_step sqB hb); clear HO198; clear HO201; clear HO204; clear HB; have HO198 := n0_; have HO201 := n1_; have HO204 := n2_; have HB := n3_; clear n0_ n1_ n2_ n3_; (try clear hb); (try clear hb2); (try clear hk); (try clear hi)))
   go_meet
   case rel => exact ⟨_, (true), sqE, H', ⟨by first | omega | exact Nat.le_refl _⟩, ⟨sqR HO198.out⟩, ⟨by (with_reducible repeat (first | apply Kd.S_alloc | apply Kd.S_drewN | apply Kd.S_drew)); exact Kd.S_mono HO204.out (fun _ hk => hk.1.2)⟩, ⟨by (with_reducible repeat (first | apply Rm.Ap.alloc | apply Rm.Ap.drewN | apply Rm.Ap.drew)); exact HAp.out⟩, ⟨by (with_reducible repeat (first | apply Rm.Room.alloc | apply Rm.Room.drewN | apply Rm.Room.drew)); exact HRm.out⟩, ⟨sqB⟩⟩
  subst c11
  have H1 : ((endonymref3_SameAll.f k t199 t202).bind fun t206 => (if t206 = true then ((endonymlaw3_whole.f k t196 l0).bind fun t207 => (endonymlaw3_ScalarSplits.j0 k l0 t196 t199 t202 (!t207))) else (endonymlaw3_ScalarSplits.j0 k l0 t196 t199 t202 true))) = some r := by rw [if_pos rfl] at H; exact H
  clear H
  have H := H1
  clear H1
  obtain ⟨t206, A12, H⟩ := sqO H
  try dsimp only at H
  by_cases c13 : t206 = true
  ·subst c13
   have H1 : ((endonymlaw3_whole.f k t196 l0).bind fun t207 => (endonymlaw3_ScalarSplits.j0 k l0 t196 t199 t202 (!t207))) = some r := by rw [if_pos rfl] at H; exact H
   clear H
   have H := H1
   clear H1
   obtain ⟨t207, A14, H⟩ := sqO H
   try dsimp only at H
   have H' := Aside0.mk H
   clear H
   go_wp2_with (first | ((with_reducible refine gate_callee (f := 7) rfl ?_); refine goesL_ (some 15) rfl rfl Try.func7 (by kernel_rfl) rfl #[] rfl sqA ?_; (with_reducible refine (endonymlaw3_told.calls k  true _ A10.out).mono ?_); rintro e w15 ⟨rfl, hb⟩; refine ⟨_, rfl, ?_⟩; (try (have HRm2 := Aside0.mk (Rm.Room.below (by (with_reducible repeat (first | apply Rm.Room.alloc | apply Rm.Room.drewN | apply Rm.Room.drew)); exact HRm.out) hb); clear HRm; have HRm := HRm2; clear HRm2)); (try (have HAp2 := Aside0.mk (Rm.Ap.below (by (with_reducible repeat (first | apply Rm.Ap.alloc | apply Rm.Ap.drewN | apply Rm.Ap.drew)); exact HAp.out) hb); clear HAp; have HAp := HAp2; clear HAp2)); have n0_ := Aside0.mk (Kd.R_below (sqR HO198.out) hb); have n1_ := Aside0.mk (Kd.S_below (by (with_reducible repeat (first | apply Kd.S_alloc | apply Kd.S_drewN | apply Kd.S_drew)); exact HO201.out) hb); have n2_ := Aside0.mk (Kd.S_below (by (with_reducible repeat (first | apply Kd.S_alloc | apply Kd.S_drewN | apply Kd.S_drew)); exact HO204.out) hb); have n3_ := Aside0.mk (below_step sqB hb); clear HO198; clear HO201; clear HO204; clear HB; have HO198 := n0_; have HO201 := n1_; have HO204 := n2_; have HB := n3_; clear n0_ n1_ n2_ n3_; (try clear hb); (try clear hb2); (try clear hk); (try clear hi); obtain ⟨Ao16, co16, eo16⟩ := Kd.S_slice HO201.out; subst eo16; obtain ⟨Ao17, co17, eo17⟩ := Kd.S_slice HO204.out; subst eo17) | (go_at_call 8; (with_reducible refine (endonymref3_SameAll.calls k _ _ t199 _ _ t202 true _ ?side1 ?side2 ?side3 ?side4 A12.out).mono ?_); (case side1 => repeat (first | exact (Kd.S_reads' HO201.out).2.2 | (with_reducible refine Kd.C_alloc ?_ _) | (with_reducible refine Kd.C_drewN ?_ _) | (with_reducible refine Kd.C_drew ?_))); (case side2 => exact (Kd.S_reads' HO201.out).2.1); (case side3 => repeat (first | exact (Kd.S_reads' HO204.out).2.2 | (with_reducible refine Kd.C_alloc ?_ _) | (with_reducible refine Kd.C_drewN ?_ _) | (with_reducible refine Kd.C_drew ?_))); (case side4 => exact (Kd.S_reads' HO204.out).2.1); rintro e w' ⟨rfl, ⟨nd, rfl⟩⟩) | (go_at_call 9; (with_reducible refine (endonymlaw3_whole.calls k _ _ t196 _ _ l0 t207 _ ?side1 ?side2 ?side3 ?side4 (by (with_reducible repeat (first | apply Rm.Room.alloc | apply Rm.Room.drewN | apply Rm.Room.drew)); exact HRm.out) A14.out).mono ?_); (case side1 => repeat (first | exact (Kd.R_reads' HO198.out).2.2 | (with_reducible refine Kd.C_alloc ?_ _) | (with_reducible refine Kd.C_drewN ?_ _) | (with_reducible refine Kd.C_drew ?_))); (case side2 => exact (Kd.R_reads' HO198.out).2.1); (case side3 => repeat (first | exact (Kd.C_below HR0.out sqB) | (with_reducible refine Kd.C_alloc ?_ _) | (with_reducible refine Kd.C_drewN ?_ _) | (with_reducible refine Kd.C_drew ?_))); (case side4 => exact HC0.out); rintro e w' ⟨rfl, ⟨nd, rfl⟩⟩))
   go_meet
   case rel => exact ⟨_, (!t207), sqE, H', ⟨by first | omega | exact Nat.le_refl _⟩, ⟨sqR HO198.out⟩, ⟨by (with_reducible repeat (first | apply Kd.S_alloc | apply Kd.S_drewN | apply Kd.S_drew)); exact Kd.S_mono HO204.out (fun _ hk => hk.1.2)⟩, ⟨by (with_reducible repeat (first | apply Rm.Ap.alloc | apply Rm.Ap.drewN | apply Rm.Ap.drew)); exact HAp.out⟩, ⟨by (with_reducible repeat (first | apply Rm.Room.alloc | apply Rm.Room.drewN | apply Rm.Room.drew)); exact HRm.out⟩, ⟨sqB⟩⟩
  replace c13 := Bool.eq_false_iff.mpr c13
  subst c13
  have H1 : (endonymlaw3_ScalarSplits.j0 k l0 t196 t199 t202 true) = some r := by rw [if_neg (show ¬ (false = true) by decide)] at H; exact H
  clear H
  have H := H1
  clear H1
  have H' := Aside0.mk H
  clear H
  go_wp2_with (first | ((with_reducible refine gate_callee (f := 7) rfl ?_); refine goesL_ (some 15) rfl rfl Try.func7 (by kernel_rfl) rfl #[] rfl sqA ?_; (with_reducible refine (endonymlaw3_told.calls k  true _ A10.out).mono ?_); rintro e w18 ⟨rfl, hb⟩; refine ⟨_, rfl, ?_⟩; (try (have HRm2 := Aside0.mk (Rm.Room.below (by (with_reducible repeat (first | apply Rm.Room.alloc | apply Rm.Room.drewN | apply Rm.Room.drew)); exact HRm.out) hb); clear HRm; have HRm := HRm2; clear HRm2)); (try (have HAp2 := Aside0.mk (Rm.Ap.below (by (with_reducible repeat (first | apply Rm.Ap.alloc | apply Rm.Ap.drewN | apply Rm.Ap.drew)); exact HAp.out) hb); clear HAp; have HAp := HAp2; clear HAp2)); have n0_ := Aside0.mk (Kd.R_below (sqR HO198.out) hb); have n1_ := Aside0.mk (Kd.S_below (by (with_reducible repeat (first | apply Kd.S_alloc | apply Kd.S_drewN | apply Kd.S_drew)); exact HO201.out) hb); have n2_ := Aside0.mk (Kd.S_below (by (with_reducible repeat (first | apply Kd.S_alloc | apply Kd.S_drewN | apply Kd.S_drew)); exact HO204.out) hb); have n3_ := Aside0.mk (below_step sqB hb); clear HO198; clear HO201; clear HO204; clear HB; have HO198 := n0_; have HO201 := n1_; have HO204 := n2_; have HB := n3_; clear n0_ n1_ n2_ n3_; (try clear hb); (try clear hb2); (try clear hk); (try clear hi); obtain ⟨Ao19, co19, eo19⟩ := Kd.S_slice HO201.out; subst eo19; obtain ⟨Ao20, co20, eo20⟩ := Kd.S_slice HO204.out; subst eo20) | (go_at_call 8; (with_reducible refine (endonymref3_SameAll.calls k _ _ t199 _ _ t202 false _ ?side1 ?side2 ?side3 ?side4 A12.out).mono ?_); (case side1 => repeat (first | exact (Kd.S_reads' HO201.out).2.2 | (with_reducible refine Kd.C_alloc ?_ _) | (with_reducible refine Kd.C_drewN ?_ _) | (with_reducible refine Kd.C_drew ?_))); (case side2 => exact (Kd.S_reads' HO201.out).2.1); (case side3 => repeat (first | exact (Kd.S_reads' HO204.out).2.2 | (with_reducible refine Kd.C_alloc ?_ _) | (with_reducible refine Kd.C_drewN ?_ _) | (with_reducible refine Kd.C_drew ?_))); (case side4 => exact (Kd.S_reads' HO204.out).2.1); rintro e w' ⟨rfl, ⟨nd, rfl⟩⟩))
  go_meet
  case rel => exact ⟨_, (true), sqE, H', ⟨by first | omega | exact Nat.le_refl _⟩, ⟨sqR HO198.out⟩, ⟨by (with_reducible repeat (first | apply Kd.S_alloc | apply Kd.S_drewN | apply Kd.S_drew)); exact Kd.S_mono HO204.out (fun _ hk => hk.1.2)⟩, ⟨by (with_reducible repeat (first | apply Rm.Ap.alloc | apply Rm.Ap.drewN | apply Rm.Ap.drew)); exact HAp.out⟩, ⟨by (with_reducible repeat (first | apply Rm.Room.alloc | apply Rm.Room.drewN | apply Rm.Room.drew)); exact HRm.out⟩, ⟨sqB⟩⟩
 case rest =>
  clear HC5
  try clear c1
  try clear p2
  try clear c3
  try clear c4
  try clear c5
  try clear c6
  try clear c7
  try clear c11
  try clear c13
  clear HRm
  obtain ⟨kq, x28_4, rfl, HA, HJ4, HO_3, HO_5, HAp, HRm, HB⟩ := hcut
  cases kq with
  | zero => exact absurd HA.out (by simp [endonymlaw3_ScalarSplits.j0])
  | succ kj4 =>
   have H := HA.out
   clear HA
   simp only [endonymlaw3_ScalarSplits.j0] at H
   by_cases c22 : x28_4 = true
   ·subst c22
    have H1 : (some false) = some r := by rw [if_pos rfl] at H; exact H
    clear H
    have H := H1
    clear H1
    obtain rfl := Option.some.inj H
    go_wp2
    go_ret
    exact ⟨sqE', sqB⟩
   replace c22 := Bool.eq_false_iff.mpr c22
   subst c22
   have H1 : ((Splits1.l0 kj4 t199 0).bind fun yl => (endonymlaw3_ScalarSplits.l0 kj4 l0 t196 yl t202 0)) = some r := by rw [if_neg (show ¬ (false = true) by decide)] at H; exact H
   clear H
   have H := H1
   clear H1
   obtain ⟨yl, AL, H⟩ := sqO H
   try dsimp only at H
   have HL := Aside0.mk H
   clear H
   obtain ⟨KS, hk1, hk2, hk3, hk4, hk5⟩ := Rm.Ap.keep HAp.out
   have HKp := Aside0.mk hk1
   have HKi := Aside0.mk hk2
   have HKw := Aside0.mk hk3
   have HW0 := Aside0.mk hk5
   have HI0 := HO_3
   have HM0 := HRm
   clear HO_3 HO_5 HRm HAp
   have HO_4 := Aside0.mk hk4
   clear hk1 hk2 hk3 hk4 hk5
   go_wp2
   go_loopg [6] kj4 (fun kq v6 w' => ∃ (x4_1 : List (List Int)) (x6_1 : Int), v6 = .int .i64 x6_1 ∧ Aside0 (Splits1.l0 kq x4_1 x6_1 = some yl) ∧ Aside0 (kq ≤ kj4) ∧ Aside0 (Rm.Keep KS wc w') ∧ Aside0 (Kd.S (Kd.slice 21 (Kd.int .i32)) 22 w' w.heap.size (fun k_ => ¬ KS k_) v200 x4_1) ∧ Aside0 (Below w.heap.size w w'))
   case atStart => exact ⟨(t199), (0), sqE, AL, ⟨Nat.le_refl _⟩, ⟨by (with_reducible repeat (first | apply Rm.Keep.alloc | apply Rm.Keep.drewN | apply Rm.Keep.drew)); exact HKp.out⟩, ⟨by (with_reducible repeat (first | apply Kd.S_alloc | apply Kd.S_drewN | apply Kd.S_drew)); exact HO_4.out⟩, ⟨sqB⟩⟩
   case round =>
    clear AL HKp HO_4
    try clear p2
    try clear c3
    try clear c4
    try clear c5
    obtain ⟨x4_1, x6_1, rfl, HA, HKa, HKp, HO_4, HB⟩ := hrel
    cases gk with
    | zero => exact absurd HA.out (by simp [Splits1.l0])
    | succ k1 =>
     have H := HA.out
     clear HA
     simp only [Splits1.l0] at H
     by_cases c7 : x6_1 < (x4_1.length : Int)
     case neg =>
      rw [if_neg c7] at H
      have c7b0 := decide_eq_false c7
      clear c7
      have ex_ := Option.some.inj H
      clear H
      subst ex_
      have HO_3 := Aside0.mk (Rm.keep_R HI0.out HKp.out HKi.out)
      have HRm := Aside0.mk (Rm.Room.keep HM0.out HKp.out HKi.out)
      have HO_5 := Aside0.mk (Rm.keep_S HW0.out HKp.out)
      have h4_ := Aside0.mk (Kd.S_mono HO_4.out (fun k_ hk => (⟨fun e => hk (HKi.out k_ e.symm), fun e => hk (HKw.out k_ e.symm)⟩ : some k_ ≠ (.slice Ao7 t196.length co7 : Value).ownBlock ∧ some k_ ≠ (v203 : Value).ownBlock)))
      clear HO_4 HKp HKi HKw HI0 HM0 HW0 HKa
      have HO_4 := h4_
      clear h4_
      have H' := HL
      clear HL
      obtain ⟨Ao9, co9, eo9⟩ := Kd.S_slice HO_4.out
      subst eo9
      go_wp2
      repeat (go_quiet (fail); try go_wp2)
      go_loopg [8] kj4 (fun kq v8 w' => ∃ (x8_2 : Int), v8 = .int .i64 x8_2 ∧ Aside0 (endonymlaw3_ScalarSplits.l0 kq l0 t196 x4_1 t202 x8_2 = some r) ∧ Aside0 (kq ≤ kj4) ∧ Aside0 (Kd.R (Kd.int .i32) 21 w' w.heap.size (fun _ => True) (.slice Ao7 t196.length co7) t196) ∧ Aside0 (Kd.S (Kd.slice 21 (Kd.int .i32)) 22 w' w.heap.size (fun k_ => some k_ ≠ ((.slice Ao7 t196.length co7) : Value).ownBlock ∧ some k_ ≠ (v203 : Value).ownBlock) (.slice Ao9 x4_1.length co9 : Value) x4_1) ∧ Aside0 (Kd.S (Kd.slice 21 (Kd.int .i32)) 22 w' w.heap.size (fun k_ => some k_ ≠ ((.slice Ao7 t196.length co7) : Value).ownBlock ∧ some k_ ≠ (.slice Ao9 x4_1.length co9 : Value).ownBlock) v203 t202) ∧ Aside0 (Rm.Room w' (.slice Ao7 t196.length co7) t196.length [.int .i32 (-7), .int .i32 (-8)]) ∧ Aside0 (Below w.heap.size w w'))
      case atStart => exact ⟨(0), sqE, H', ⟨Nat.le_refl _⟩, ⟨sqR HO_3.out⟩, ⟨by (with_reducible repeat (first | apply Kd.S_alloc | apply Kd.S_drewN | apply Kd.S_drew)); exact HO_4.out⟩, ⟨by (with_reducible repeat (first | apply Kd.S_alloc | apply Kd.S_drewN | apply Kd.S_drew)); exact HO_5.out⟩, ⟨by (with_reducible repeat (first | apply Rm.Room.alloc | apply Rm.Room.drewN | apply Rm.Room.drew)); exact HRm.out⟩, ⟨sqB⟩⟩
      case round =>
       clear H'
       try clear c1
       try clear c2
       try clear p2
       try clear c3
       try clear c11
       try clear c13
       try clear c22
       try clear p2
       clear HRm
       obtain ⟨x8_2, rfl, HA, HK2, HO_3, HO_4, HO_5, HRm, HB⟩ := hrel
       cases gk with
       | zero => exact absurd HA.out (by simp [endonymlaw3_ScalarSplits.l0])
       | succ k2 =>
        have H := HA.out
        clear HA
        simp only [endonymlaw3_ScalarSplits.l0] at H
        by_cases c23 : x8_2 < (x4_1.length : Int)
        case neg =>
         rw [if_neg c23] at H
         have c23b0 := decide_eq_false c23
         clear c23
         obtain ⟨t213, A36, H⟩ := sqO H
         try dsimp only at H
         by_cases c37 : t213 = true
         case neg =>
          replace c37 := Bool.eq_false_iff.mpr c37
          subst c37
          have H1 : (some false) = some r := by rw [if_neg (show ¬ (false = true) by decide)] at H; exact H
          clear H
          have H := H1
          clear H1
          obtain rfl := Option.some.inj H
          obtain ⟨Ao44, co44, rfl, rfl⟩ : ∃ A_ c_, Ao9 = A_ ∧ co9 = c_ := ⟨_, _, rfl, rfl⟩
          go_wp2_with (first | (go_at_call 9; (with_reducible refine (endonymlaw3_whole.calls k2 _ _ t196 _ _ l0 false _ ?side1 ?side2 ?side3 ?side4 (by (with_reducible repeat (first | apply Rm.Room.alloc | apply Rm.Room.drewN | apply Rm.Room.drew)); exact HRm.out) A36.out).mono ?_); (case side1 => repeat (first | exact (Kd.R_reads' HO_3.out).2.2 | (with_reducible refine Kd.C_alloc ?_ _) | (with_reducible refine Kd.C_drewN ?_ _) | (with_reducible refine Kd.C_drew ?_))); (case side2 => exact (Kd.R_reads' HO_3.out).2.1); (case side3 => repeat (first | exact (Kd.C_below HR0.out HB.out) | (with_reducible refine Kd.C_alloc ?_ _) | (with_reducible refine Kd.C_drewN ?_ _) | (with_reducible refine Kd.C_drew ?_))); (case side4 => exact HC0.out); rintro e w' ⟨rfl, ⟨nd, rfl⟩⟩; (try first | exact ⟨rfl, _, World.drewN_drewN _ _ _⟩ | exact ⟨rfl, _, Eq.trans (World.drewN_drewN _ _ _) (congrArg (World.drewN _) (Nat.add_assoc _ _ _))⟩)))
          repeat (go_quiet (first | (go_at_call 9; (with_reducible refine (endonymlaw3_whole.calls k2 _ _ t196 _ _ l0 false _ ?side1 ?side2 ?side3 ?side4 (by (with_reducible repeat (first | apply Rm.Room.alloc | apply Rm.Room.drewN | apply Rm.Room.drew)); exact HRm.out) A36.out).mono ?_); (case side1 => repeat (first | exact (Kd.R_reads' HO_3.out).2.2 | (with_reducible refine Kd.C_alloc ?_ _) | (with_reducible refine Kd.C_drewN ?_ _) | (with_reducible refine Kd.C_drew ?_))); (case side2 => exact (Kd.R_reads' HO_3.out).2.1); (case side3 => repeat (first | exact (Kd.C_below HR0.out HB.out) | (with_reducible refine Kd.C_alloc ?_ _) | (with_reducible refine Kd.C_drewN ?_ _) | (with_reducible refine Kd.C_drew ?_))); (case side4 => exact HC0.out); rintro e w' ⟨rfl, ⟨nd, rfl⟩⟩; (try first | exact ⟨rfl, _, World.drewN_drewN _ _ _⟩ | exact ⟨rfl, _, Eq.trans (World.drewN_drewN _ _ _) (congrArg (World.drewN _) (Nat.add_assoc _ _ _))⟩))); try go_wp2_with (first | (go_at_call 9; (with_reducible refine (endonymlaw3_whole.calls k2 _ _ t196 _ _ l0 false _ ?side1 ?side2 ?side3 ?side4 (by (with_reducible repeat (first | apply Rm.Room.alloc | apply Rm.Room.drewN | apply Rm.Room.drew)); exact HRm.out) A36.out).mono ?_); (case side1 => repeat (first | exact (Kd.R_reads' HO_3.out).2.2 | (with_reducible refine Kd.C_alloc ?_ _) | (with_reducible refine Kd.C_drewN ?_ _) | (with_reducible refine Kd.C_drew ?_))); (case side2 => exact (Kd.R_reads' HO_3.out).2.1); (case side3 => repeat (first | exact (Kd.C_below HR0.out HB.out) | (with_reducible refine Kd.C_alloc ?_ _) | (with_reducible refine Kd.C_drewN ?_ _) | (with_reducible refine Kd.C_drew ?_))); (case side4 => exact HC0.out); rintro e w' ⟨rfl, ⟨nd, rfl⟩⟩; (try first | exact ⟨rfl, _, World.drewN_drewN _ _ _⟩ | exact ⟨rfl, _, Eq.trans (World.drewN_drewN _ _ _) (congrArg (World.drewN _) (Nat.add_assoc _ _ _))⟩))))
          go_ret
          exact ⟨sqE', sqB⟩
         subst c37
         have H1 : ((scalar_Split.f k2 t196).bind fun t214 => ((endonymref3_SameAll.f k2 t214 t202).bind fun t217 => (some t217))) = some r := by rw [if_pos rfl] at H; exact H
         clear H
         have H := H1
         clear H1
         obtain ⟨t214, A38, H⟩ := sqO H
         try dsimp only at H
         obtain ⟨t217, A39, H⟩ := sqO H
         try dsimp only at H
         obtain rfl := Option.some.inj H
         obtain ⟨Ao40, co40, rfl, rfl⟩ : ∃ A_ c_, Ao9 = A_ ∧ co9 = c_ := ⟨_, _, rfl, rfl⟩
         go_wp2_with (first | (go_at_call 9; (with_reducible refine (endonymlaw3_whole.calls k2 _ _ t196 _ _ l0 true _ ?side1 ?side2 ?side3 ?side4 (by (with_reducible repeat (first | apply Rm.Room.alloc | apply Rm.Room.drewN | apply Rm.Room.drew)); exact HRm.out) A36.out).mono ?_); (case side1 => repeat (first | exact (Kd.R_reads' HO_3.out).2.2 | (with_reducible refine Kd.C_alloc ?_ _) | (with_reducible refine Kd.C_drewN ?_ _) | (with_reducible refine Kd.C_drew ?_))); (case side2 => exact (Kd.R_reads' HO_3.out).2.1); (case side3 => repeat (first | exact (Kd.C_below HR0.out HB.out) | (with_reducible refine Kd.C_alloc ?_ _) | (with_reducible refine Kd.C_drewN ?_ _) | (with_reducible refine Kd.C_drew ?_))); (case side4 => exact HC0.out); rintro e w' ⟨rfl, ⟨nd, rfl⟩⟩; (try first | exact ⟨rfl, _, World.drewN_drewN _ _ _⟩ | exact ⟨rfl, _, Eq.trans (World.drewN_drewN _ _ _) (congrArg (World.drewN _) (Nat.add_assoc _ _ _))⟩)) | (go_at_call 5; (with_reducible refine (scalar_Split.calls k2 _ _ t196 t214 _ ?side1 ?side2 A38.out).mono ?_); (case side1 => repeat (first | exact (Kd.R_reads' HO_3.out).2.2 | (with_reducible refine Kd.C_alloc ?_ _) | (with_reducible refine Kd.C_drewN ?_ _) | (with_reducible refine Kd.C_drew ?_))); (case side2 => exact (Kd.R_reads' HO_3.out).2.1); rintro e w41 ⟨v215, rfl, ho0, hb⟩; (try (have HRm2 := Aside0.mk (Rm.Room.below (by (with_reducible repeat (first | apply Rm.Room.alloc | apply Rm.Room.drewN | apply Rm.Room.drew)); exact HRm.out) hb); clear HRm; have HRm := HRm2; clear HRm2)); have n0_ := Aside0.mk (Kd.R_below (sqR HO_3.out) hb); have n1_ := Aside0.mk (Kd.S_elder' (by (with_reducible repeat (first | apply Kd.S_alloc | apply Kd.S_drewN | apply Kd.S_drew)); exact HO_4.out) (Kd.S_base ho0) hb); have n2_ := Aside0.mk (Kd.S_elder' (by (with_reducible repeat (first | apply Kd.S_alloc | apply Kd.S_drewN | apply Kd.S_drew)); exact HO_5.out) (Kd.S_base ho0) hb); have n3_ := Aside0.mk (Kd.S_lower (Kd.S_new' (Kd.S_new' (Kd.S_new' ho0 (Kd.R_lt (sqR HO_3.out))) (Kd.S_lt (by (with_reducible repeat (first | apply Kd.S_alloc | apply Kd.S_drewN | apply Kd.S_drew)); exact HO_4.out))) (Kd.S_lt (by (with_reducible repeat (first | apply Kd.S_alloc | apply Kd.S_drewN | apply Kd.S_drew)); exact HO_5.out))) (below_size sqB)); have n4_ := Aside0.mk (below_step sqB hb); clear HO_3; clear HO_4; clear HO_5; clear HB; have HO_3 := n0_; have HO_4 := n1_; have HO_5 := n2_; have HO216 := n3_; have HB := n4_; clear n0_ n1_ n2_ n3_ n4_; (try clear hb); (try clear hb2); (try clear hk); (try clear hi); (try clear ho0); obtain ⟨Ao42, co42, eo42⟩ := Kd.S_slice HO216.out; subst eo42; obtain ⟨Ao43, co43, eo43⟩ := Kd.S_slice HO_5.out; subst eo43) | (go_at_call 8; (with_reducible refine (endonymref3_SameAll.calls k2 _ _ t214 _ _ t202 t217 _ ?side1 ?side2 ?side3 ?side4 A39.out).mono ?_); (case side1 => repeat (first | exact (Kd.S_reads' HO216.out).2.2 | (with_reducible refine Kd.C_alloc ?_ _) | (with_reducible refine Kd.C_drewN ?_ _) | (with_reducible refine Kd.C_drew ?_))); (case side2 => exact (Kd.S_reads' HO216.out).2.1); (case side3 => repeat (first | exact (Kd.S_reads' HO_5.out).2.2 | (with_reducible refine Kd.C_alloc ?_ _) | (with_reducible refine Kd.C_drewN ?_ _) | (with_reducible refine Kd.C_drew ?_))); (case side4 => exact (Kd.S_reads' HO_5.out).2.1); rintro e w' ⟨rfl, ⟨nd, rfl⟩⟩; (try first | exact ⟨rfl, _, World.drewN_drewN _ _ _⟩ | exact ⟨rfl, _, Eq.trans (World.drewN_drewN _ _ _) (congrArg (World.drewN _) (Nat.add_assoc _ _ _))⟩)))
         repeat (go_quiet (first | (go_at_call 9; (with_reducible refine (endonymlaw3_whole.calls k2 _ _ t196 _ _ l0 true _ ?side1 ?side2 ?side3 ?side4 (by (with_reducible repeat (first | apply Rm.Room.alloc | apply Rm.Room.drewN | apply Rm.Room.drew)); exact HRm.out) A36.out).mono ?_); (case side1 => repeat (first | exact (Kd.R_reads' HO_3.out).2.2 | (with_reducible refine Kd.C_alloc ?_ _) | (with_reducible refine Kd.C_drewN ?_ _) | (with_reducible refine Kd.C_drew ?_))); (case side2 => exact (Kd.R_reads' HO_3.out).2.1); (case side3 => repeat (first | exact (Kd.C_below HR0.out HB.out) | (with_reducible refine Kd.C_alloc ?_ _) | (with_reducible refine Kd.C_drewN ?_ _) | (with_reducible refine Kd.C_drew ?_))); (case side4 => exact HC0.out); rintro e w' ⟨rfl, ⟨nd, rfl⟩⟩; (try first | exact ⟨rfl, _, World.drewN_drewN _ _ _⟩ | exact ⟨rfl, _, Eq.trans (World.drewN_drewN _ _ _) (congrArg (World.drewN _) (Nat.add_assoc _ _ _))⟩)) | (go_at_call 5; (with_reducible refine (scalar_Split.calls k2 _ _ t196 t214 _ ?side1 ?side2 A38.out).mono ?_); (case side1 => repeat (first | exact (Kd.R_reads' HO_3.out).2.2 | (with_reducible refine Kd.C_alloc ?_ _) | (with_reducible refine Kd.C_drewN ?_ _) | (with_reducible refine Kd.C_drew ?_))); (case side2 => exact (Kd.R_reads' HO_3.out).2.1); rintro e w41 ⟨v215, rfl, ho0, hb⟩; (try (have HRm2 := Aside0.mk (Rm.Room.below (by (with_reducible repeat (first | apply Rm.Room.alloc | apply Rm.Room.drewN | apply Rm.Room.drew)); exact HRm.out) hb); clear HRm; have HRm := HRm2; clear HRm2)); have n0_ := Aside0.mk (Kd.R_below (sqR HO_3.out) hb); have n1_ := Aside0.mk (Kd.S_elder' (by (with_reducible repeat (first | apply Kd.S_alloc | apply Kd.S_drewN | apply Kd.S_drew)); exact HO_4.out) (Kd.S_base ho0) hb); have n2_ := Aside0.mk (Kd.S_elder' (by (with_reducible repeat (first | apply Kd.S_alloc | apply Kd.S_drewN | apply Kd.S_drew)); exact HO_5.out) (Kd.S_base ho0) hb); have n3_ := Aside0.mk (Kd.S_lower (Kd.S_new' (Kd.S_new' (Kd.S_new' ho0 (Kd.R_lt (sqR HO_3.out))) (Kd.S_lt (by (with_reducible repeat (first | apply Kd.S_alloc | apply Kd.S_drewN | apply Kd.S_drew)); exact HO_4.out))) (Kd.S_lt (by (with_reducible repeat (first | apply Kd.S_alloc | apply Kd.S_drewN | apply Kd.S_drew)); exact HO_5.out))) (below_size sqB)); have n4_ := Aside0.mk (below_step sqB hb); clear HO_3; clear HO_4; clear HO_5; clear HB; have HO_3 := n0_; have HO_4 := n1_; have HO_5 := n2_; have HO216 := n3_; have HB := n4_; clear n0_ n1_ n2_ n3_ n4_; (try clear hb); (try clear hb2); (try clear hk); (try clear hi); (try clear ho0); obtain ⟨Ao42, co42, eo42⟩ := Kd.S_slice HO216.out; subst eo42; obtain ⟨Ao43, co43, eo43⟩ := Kd.S_slice HO_5.out; subst eo43) | (go_at_call 8; (with_reducible refine (endonymref3_SameAll.calls k2 _ _ t214 _ _ t202 t217 _ ?side1 ?side2 ?side3 ?side4 A39.out).mono ?_); (case side1 => repeat (first | exact (Kd.S_reads' HO216.out).2.2 | (with_reducible refine Kd.C_alloc ?_ _) | (with_reducible refine Kd.C_drewN ?_ _) | (with_reducible refine Kd.C_drew ?_))); (case side2 => exact (Kd.S_reads' HO216.out).2.1); (case side3 => repeat (first | exact (Kd.S_reads' HO_5.out).2.2 | (with_reducible refine Kd.C_alloc ?_ _) | (with_reducible refine Kd.C_drewN ?_ _) | (with_reducible refine Kd.C_drew ?_))); (case side4 => exact (Kd.S_reads' HO_5.out).2.1); rintro e w' ⟨rfl, ⟨nd, rfl⟩⟩; (try first | exact ⟨rfl, _, World.drewN_drewN _ _ _⟩ | exact ⟨rfl, _, Eq.trans (World.drewN_drewN _ _ _) (congrArg (World.drewN _) (Nat.add_assoc _ _ _))⟩))); try go_wp2_with (first | (go_at_call 9; (with_reducible refine (endonymlaw3_whole.calls k2 _ _ t196 _ _ l0 true _ ?side1 ?side2 ?side3 ?side4 (by (with_reducible repeat (first | apply Rm.Room.alloc | apply Rm.Room.drewN | apply Rm.Room.drew)); exact HRm.out) A36.out).mono ?_); (case side1 => repeat (first | exact (Kd.R_reads' HO_3.out).2.2 | (with_reducible refine Kd.C_alloc ?_ _) | (with_reducible refine Kd.C_drewN ?_ _) | (with_reducible refine Kd.C_drew ?_))); (case side2 => exact (Kd.R_reads' HO_3.out).2.1); (case side3 => repeat (first | exact (Kd.C_below HR0.out HB.out) | (with_reducible refine Kd.C_alloc ?_ _) | (with_reducible refine Kd.C_drewN ?_ _) | (with_reducible refine Kd.C_drew ?_))); (case side4 => exact HC0.out); rintro e w' ⟨rfl, ⟨nd, rfl⟩⟩; (try first | exact ⟨rfl, _, World.drewN_drewN _ _ _⟩ | exact ⟨rfl, _, Eq.trans (World.drewN_drewN _ _ _) (congrArg (World.drewN _) (Nat.add_assoc _ _ _))⟩)) | (go_at_call 5; (with_reducible refine (scalar_Split.calls k2 _ _ t196 t214 _ ?side1 ?side2 A38.out).mono ?_); (case side1 => repeat (first | exact (Kd.R_reads' HO_3.out).2.2 | (with_reducible refine Kd.C_alloc ?_ _) | (with_reducible refine Kd.C_drewN ?_ _) | (with_reducible refine Kd.C_drew ?_))); (case side2 => exact (Kd.R_reads' HO_3.out).2.1); rintro e w41 ⟨v215, rfl, ho0, hb⟩; (try (have HRm2 := Aside0.mk (Rm.Room.below (by (with_reducible repeat (first | apply Rm.Room.alloc | apply Rm.Room.drewN | apply Rm.Room.drew)); exact HRm.out) hb); clear HRm; have HRm := HRm2; clear HRm2)); have n0_ := Aside0.mk (Kd.R_below (sqR HO_3.out) hb); have n1_ := Aside0.mk (Kd.S_elder' (by (with_reducible repeat (first | apply Kd.S_alloc | apply Kd.S_drewN | apply Kd.S_drew)); exact HO_4.out) (Kd.S_base ho0) hb); have n2_ := Aside0.mk (Kd.S_elder' (by (with_reducible repeat (first | apply Kd.S_alloc | apply Kd.S_drewN | apply Kd.S_drew)); exact HO_5.out) (Kd.S_base ho0) hb); have n3_ := Aside0.mk (Kd.S_lower (Kd.S_new' (Kd.S_new' (Kd.S_new' ho0 (Kd.R_lt (sqR HO_3.out))) (Kd.S_lt (by (with_reducible repeat (first | apply Kd.S_alloc | apply Kd.S_drewN | apply Kd.S_drew)); exact HO_4.out))) (Kd.S_lt (by (with_reducible repeat (first | apply Kd.S_alloc | apply Kd.S_drewN | apply Kd.S_drew)); exact HO_5.out))) (below_size sqB)); have n4_ := Aside0.mk (below_step sqB hb); clear HO_3; clear HO_4; clear HO_5; clear HB; have HO_3 := n0_; have HO_4 := n1_; have HO_5 := n2_; have HO216 := n3_; have HB := n4_; clear n0_ n1_ n2_ n3_ n4_; (try clear hb); (try clear hb2); (try clear hk); (try clear hi); (try clear ho0); obtain ⟨Ao42, co42, eo42⟩ := Kd.S_slice HO216.out; subst eo42; obtain ⟨Ao43, co43, eo43⟩ := Kd.S_slice HO_5.out; subst eo43) | (go_at_call 8; (with_reducible refine (endonymref3_SameAll.calls k2 _ _ t214 _ _ t202 t217 _ ?side1 ?side2 ?side3 ?side4 A39.out).mono ?_); (case side1 => repeat (first | exact (Kd.S_reads' HO216.out).2.2 | (with_reducible refine Kd.C_alloc ?_ _) | (with_reducible refine Kd.C_drewN ?_ _) | (with_reducible refine Kd.C_drew ?_))); (case side2 => exact (Kd.S_reads' HO216.out).2.1); (case side3 => repeat (first | exact (Kd.S_reads' HO_5.out).2.2 | (with_reducible refine Kd.C_alloc ?_ _) | (with_reducible refine Kd.C_drewN ?_ _) | (with_reducible refine Kd.C_drew ?_))); (case side4 => exact (Kd.S_reads' HO_5.out).2.1); rintro e w' ⟨rfl, ⟨nd, rfl⟩⟩; (try first | exact ⟨rfl, _, World.drewN_drewN _ _ _⟩ | exact ⟨rfl, _, Eq.trans (World.drewN_drewN _ _ _) (congrArg (World.drewN _) (Nat.add_assoc _ _ _))⟩))))
         go_ret
         exact ⟨sqE', sqB⟩
        rw [if_pos c23] at H
        have c23b0 := decide_eq_true c23
        clear c23
        by_cases c24 : 0 ≤ x8_2
        case neg => rw [if_neg c24] at H; exact absurd H (by simp)
        rw [if_pos c24] at H
        have c24b0 := decide_eq_true c24
        clear c24
        by_cases c25 : x8_2 < (t202.length : Int)
        case neg => rw [if_neg c25] at H; exact absurd H (by simp)
        rw [if_pos c25] at H
        have c25b0 := decide_eq_true c25
        clear c25
        by_cases c26 : ((rd_L1 x4_1 x8_2).length : Int) = (wrap64 (((rd_L1 t202 x8_2).length : Int) + 2))
        case neg =>
         rw [if_neg c26] at H
         have c26b0 := beq_eq_false_iff_ne.mpr c26
         have c26b1 := bne_iff_ne.mpr c26
         obtain rfl := Option.some.inj H
         obtain ⟨Ao34, co34, rfl, rfl⟩ : ∃ A_ c_, Ao9 = A_ ∧ co9 = c_ := ⟨_, _, rfl, rfl⟩
         have p208 : 0 ≤ (x8_2 : Int) := sqD
         have q208 : x8_2 < (x4_1.length : Int) := sqD
         obtain ⟨ad208, A208_0, c208_0, e208, hx208_0, hl208_0, hi208_0⟩ := at_L1 (Kd.S_reads' HO_4.out).2.2 x8_2 p208 q208
         cases e208
         obtain ⟨ce208, hce208, hMe208, hcc208⟩ := Kd.S_get HO_4.out [] x8_2 p208 (by first | exact q208 | exact sqD | (have e_ := (Kd.S_reads' HO_4.out).1; omega))
         obtain ⟨ve208_0, rfl, ge208_0⟩ := hMe208
         have hv208_0 := hcc208 0 _ rfl
         rw [Nat.add_zero, show ((Kd.slice 21 (Kd.int .i32))).sz = 1 from rfl, Nat.mul_one] at hv208_0
         replace hv208_0 := Option.some.inj (hv208_0.symm.trans hx208_0)
         rw [hv208_0] at ge208_0
         have HL208_0 := Aside0.mk (show Kd.R (Kd.int .i32) 21 _ _ _ _ (rd_L1 x4_1 x8_2) from ge208_0)
         clear hv208_0 ge208_0
         clear hcc208 hce208
         have HR208_0 := Aside0.mk hi208_0
         have HC208_0 := Aside0.mk hl208_0
         clear hi208_0 hl208_0
         replace p208 := eq_true p208
         replace q208 := eq_true q208
         obtain ⟨Ao35, co35, eo35⟩ := Kd.S_slice HO_5.out
         subst eo35
         have p209 : 0 ≤ (x8_2 : Int) := sqD
         have q209 : x8_2 < (t202.length : Int) := sqD
         obtain ⟨ad209, A209_0, c209_0, e209, hx209_0, hl209_0, hi209_0⟩ := at_L1 (Kd.S_reads' HO_5.out).2.2 x8_2 p209 q209
         cases e209
         obtain ⟨ce209, hce209, hMe209, hcc209⟩ := Kd.S_get HO_5.out [] x8_2 p209 (by first | exact q209 | exact sqD | (have e_ := (Kd.S_reads' HO_5.out).1; omega))
         obtain ⟨ve209_0, rfl, ge209_0⟩ := hMe209
         have hv209_0 := hcc209 0 _ rfl
         rw [Nat.add_zero, show ((Kd.slice 21 (Kd.int .i32))).sz = 1 from rfl, Nat.mul_one] at hv209_0
         replace hv209_0 := Option.some.inj (hv209_0.symm.trans hx209_0)
         rw [hv209_0] at ge209_0
         have HL209_0 := Aside0.mk (show Kd.R (Kd.int .i32) 21 _ _ _ _ (rd_L1 t202 x8_2) from ge209_0)
         clear hv209_0 ge209_0
         clear hcc209 hce209
         have HR209_0 := Aside0.mk hi209_0
         have HC209_0 := Aside0.mk hl209_0
         clear hi209_0 hl209_0
         replace p209 := eq_true p209
         replace q209 := eq_true q209
         go_wp2
         repeat (go_quiet (fail); try go_wp2)
         go_ret
         exact ⟨sqE', sqB⟩
        rw [if_pos c26] at H
        have c26b0 := beq_iff_eq.mpr c26
        have c26b1 := bne_eq_false_iff_eq.mpr c26
        clear c26
        by_cases c27 : 0 ≤ ((rd_L1 t202 x8_2).length : Int)
        case neg => rw [if_neg c27] at H; exact absurd H (by simp)
        rw [if_pos c27] at H
        have c27b0 := decide_eq_true c27
        have c27b1 : decide (0 ≤ (rd_L1 t202 x8_2).length) = true := decide_eq_true (by omega)
        clear c27
        by_cases c28 : ((rd_L1 t202 x8_2).length : Int) < ((rd_L1 x4_1 x8_2).length : Int)
        case neg => rw [if_neg c28] at H; exact absurd H (by simp)
        rw [if_pos c28] at H
        have c28b0 := decide_eq_true c28
        have c28b1 : decide ((rd_L1 t202 x8_2).length < (rd_L1 x4_1 x8_2).length) = true := decide_eq_true (Int.ofNat_lt.mp c28)
        clear c28
        by_cases c29 : (rd (rd_L1 x4_1 x8_2) ((rd_L1 t202 x8_2).length : Int)) = (-9)
        case neg =>
         rw [if_neg c29] at H
         have c29b0 := beq_eq_false_iff_ne.mpr c29
         have c29b1 := bne_iff_ne.mpr c29
         obtain rfl := Option.some.inj H
         obtain ⟨Ao32, co32, rfl, rfl⟩ : ∃ A_ c_, Ao9 = A_ ∧ co9 = c_ := ⟨_, _, rfl, rfl⟩
         have p208 : 0 ≤ (x8_2 : Int) := sqD
         have q208 : x8_2 < (x4_1.length : Int) := sqD
         obtain ⟨ad208, A208_0, c208_0, e208, hx208_0, hl208_0, hi208_0⟩ := at_L1 (Kd.S_reads' HO_4.out).2.2 x8_2 p208 q208
         cases e208
         obtain ⟨ce208, hce208, hMe208, hcc208⟩ := Kd.S_get HO_4.out [] x8_2 p208 (by first | exact q208 | exact sqD | (have e_ := (Kd.S_reads' HO_4.out).1; omega))
         obtain ⟨ve208_0, rfl, ge208_0⟩ := hMe208
         have hv208_0 := hcc208 0 _ rfl
         rw [Nat.add_zero, show ((Kd.slice 21 (Kd.int .i32))).sz = 1 from rfl, Nat.mul_one] at hv208_0
         replace hv208_0 := Option.some.inj (hv208_0.symm.trans hx208_0)
         rw [hv208_0] at ge208_0
         have HL208_0 := Aside0.mk (show Kd.R (Kd.int .i32) 21 _ _ _ _ (rd_L1 x4_1 x8_2) from ge208_0)
         clear hv208_0 ge208_0
         clear hcc208 hce208
         have HR208_0 := Aside0.mk hi208_0
         have HC208_0 := Aside0.mk hl208_0
         clear hi208_0 hl208_0
         replace p208 := eq_true p208
         replace q208 := eq_true q208
         obtain ⟨Ao33, co33, eo33⟩ := Kd.S_slice HO_5.out
         subst eo33
         have p209 : 0 ≤ (x8_2 : Int) := sqD
         have q209 : x8_2 < (t202.length : Int) := sqD
         obtain ⟨ad209, A209_0, c209_0, e209, hx209_0, hl209_0, hi209_0⟩ := at_L1 (Kd.S_reads' HO_5.out).2.2 x8_2 p209 q209
         cases e209
         obtain ⟨ce209, hce209, hMe209, hcc209⟩ := Kd.S_get HO_5.out [] x8_2 p209 (by first | exact q209 | exact sqD | (have e_ := (Kd.S_reads' HO_5.out).1; omega))
         obtain ⟨ve209_0, rfl, ge209_0⟩ := hMe209
         have hv209_0 := hcc209 0 _ rfl
         rw [Nat.add_zero, show ((Kd.slice 21 (Kd.int .i32))).sz = 1 from rfl, Nat.mul_one] at hv209_0
         replace hv209_0 := Option.some.inj (hv209_0.symm.trans hx209_0)
         rw [hv209_0] at ge209_0
         have HL209_0 := Aside0.mk (show Kd.R (Kd.int .i32) 21 _ _ _ _ (rd_L1 t202 x8_2) from ge209_0)
         clear hv209_0 ge209_0
         clear hcc209 hce209
         have HR209_0 := Aside0.mk hi209_0
         have HC209_0 := Aside0.mk hl209_0
         clear hi209_0 hl209_0
         replace p209 := eq_true p209
         replace q209 := eq_true q209
         have p210 : 0 ≤ (x8_2 : Int) := sqD
         have q210 : x8_2 < (x4_1.length : Int) := sqD
         obtain ⟨ad210, A210_0, c210_0, e210, hx210_0, hl210_0, hi210_0⟩ := at_L1 (Kd.S_reads' HO_4.out).2.2 x8_2 p210 q210
         obtain rfl : ad208 = ad210 := (by injection e210)
         obtain ⟨ce210, hce210, hMe210, hcc210⟩ := Kd.S_get HO_4.out [] x8_2 p210 (by first | exact q210 | exact sqD | (have e_ := (Kd.S_reads' HO_4.out).1; omega))
         obtain ⟨ve210_0, rfl, ge210_0⟩ := hMe210
         have hv210_0 := hcc210 0 _ rfl
         rw [Nat.add_zero, show ((Kd.slice 21 (Kd.int .i32))).sz = 1 from rfl, Nat.mul_one] at hv210_0
         replace hv210_0 := Option.some.inj (hv210_0.symm.trans hx210_0)
         rw [hv210_0] at ge210_0
         have HL210_0 := Aside0.mk (show Kd.R (Kd.int .i32) 21 _ _ _ _ (rd_L1 x4_1 x8_2) from ge210_0)
         clear hv210_0 ge210_0
         clear hcc210 hce210
         have HR210_0 := Aside0.mk hi210_0
         have HC210_0 := Aside0.mk hl210_0
         clear hi210_0 hl210_0
         replace p210 := eq_true p210
         replace q210 := eq_true q210
         have ea_ := Option.some.inj (hx208_0.symm.trans hx210_0)
         injection ea_ with ea_ en_ ec_
         subst ea_
         subst ec_
         clear en_
         have p211 : 0 ≤ (x8_2 : Int) := sqD
         have q211 : x8_2 < (t202.length : Int) := sqD
         obtain ⟨ad211, A211_0, c211_0, e211, hx211_0, hl211_0, hi211_0⟩ := at_L1 (Kd.S_reads' HO_5.out).2.2 x8_2 p211 q211
         obtain rfl : ad209 = ad211 := (by injection e211)
         obtain ⟨ce211, hce211, hMe211, hcc211⟩ := Kd.S_get HO_5.out [] x8_2 p211 (by first | exact q211 | exact sqD | (have e_ := (Kd.S_reads' HO_5.out).1; omega))
         obtain ⟨ve211_0, rfl, ge211_0⟩ := hMe211
         have hv211_0 := hcc211 0 _ rfl
         rw [Nat.add_zero, show ((Kd.slice 21 (Kd.int .i32))).sz = 1 from rfl, Nat.mul_one] at hv211_0
         replace hv211_0 := Option.some.inj (hv211_0.symm.trans hx211_0)
         rw [hv211_0] at ge211_0
         have HL211_0 := Aside0.mk (show Kd.R (Kd.int .i32) 21 _ _ _ _ (rd_L1 t202 x8_2) from ge211_0)
         clear hv211_0 ge211_0
         clear hcc211 hce211
         have HR211_0 := Aside0.mk hi211_0
         have HC211_0 := Aside0.mk hl211_0
         clear hi211_0 hl211_0
         replace p211 := eq_true p211
         replace q211 := eq_true q211
         have ea_ := Option.some.inj (hx209_0.symm.trans hx211_0)
         injection ea_ with ea_ en_ ec_
         subst ea_
         subst ec_
         clear en_
         have p212 : 0 ≤ (((rd_L1 t202 x8_2).length : Int) : Int) := sqD
         have q212 : ((rd_L1 t202 x8_2).length : Int) < ((rd_L1 x4_1 x8_2).length : Int) := sqD
         obtain ⟨ad212, e212, hx212_0⟩ := Kd.at_int (by repeat (first | (with_reducible exact HR210_0.out) | (with_reducible refine Kd.C_alloc ?_ _) | (with_reducible refine Kd.C_drewN ?_ _) | (with_reducible refine Kd.C_drew ?_) | exact HR210_0.out)) ((rd_L1 t202 x8_2).length : Int) p212 q212
         cases e212
         (try simp only [Go.IntWalk.toNatUp] at hx212_0)
         replace p212 := eq_true p212
         replace q212 := eq_true q212
         go_wp2
         repeat (go_quiet (fail); try go_wp2)
         go_ret
         exact ⟨sqE', sqB⟩
        rw [if_pos c29] at H
        have c29b0 := beq_iff_eq.mpr c29
        have c29b1 := bne_eq_false_iff_eq.mpr c29
        clear c29
        have H' := Aside0.mk H
        clear H
        obtain ⟨Ao30, co30, rfl, rfl⟩ : ∃ A_ c_, Ao9 = A_ ∧ co9 = c_ := ⟨_, _, rfl, rfl⟩
        have p208 : 0 ≤ (x8_2 : Int) := sqD
        have q208 : x8_2 < (x4_1.length : Int) := sqD
        obtain ⟨ad208, A208_0, c208_0, e208, hx208_0, hl208_0, hi208_0⟩ := at_L1 (Kd.S_reads' HO_4.out).2.2 x8_2 p208 q208
        cases e208
        obtain ⟨ce208, hce208, hMe208, hcc208⟩ := Kd.S_get HO_4.out [] x8_2 p208 (by first | exact q208 | exact sqD | (have e_ := (Kd.S_reads' HO_4.out).1; omega))
        obtain ⟨ve208_0, rfl, ge208_0⟩ := hMe208
        have hv208_0 := hcc208 0 _ rfl
        rw [Nat.add_zero, show ((Kd.slice 21 (Kd.int .i32))).sz = 1 from rfl, Nat.mul_one] at hv208_0
        replace hv208_0 := Option.some.inj (hv208_0.symm.trans hx208_0)
        rw [hv208_0] at ge208_0
        have HL208_0 := Aside0.mk (show Kd.R (Kd.int .i32) 21 _ _ _ _ (rd_L1 x4_1 x8_2) from ge208_0)
        clear hv208_0 ge208_0
        clear hcc208 hce208
        have HR208_0 := Aside0.mk hi208_0
        have HC208_0 := Aside0.mk hl208_0
        clear hi208_0 hl208_0
        replace p208 := eq_true p208
        replace q208 := eq_true q208
        obtain ⟨Ao31, co31, eo31⟩ := Kd.S_slice HO_5.out
        subst eo31
        have p209 : 0 ≤ (x8_2 : Int) := sqD
        have q209 : x8_2 < (t202.length : Int) := sqD
        obtain ⟨ad209, A209_0, c209_0, e209, hx209_0, hl209_0, hi209_0⟩ := at_L1 (Kd.S_reads' HO_5.out).2.2 x8_2 p209 q209
        cases e209
        obtain ⟨ce209, hce209, hMe209, hcc209⟩ := Kd.S_get HO_5.out [] x8_2 p209 (by first | exact q209 | exact sqD | (have e_ := (Kd.S_reads' HO_5.out).1; omega))
        obtain ⟨ve209_0, rfl, ge209_0⟩ := hMe209
        have hv209_0 := hcc209 0 _ rfl
        rw [Nat.add_zero, show ((Kd.slice 21 (Kd.int .i32))).sz = 1 from rfl, Nat.mul_one] at hv209_0
        replace hv209_0 := Option.some.inj (hv209_0.symm.trans hx209_0)
        rw [hv209_0] at ge209_0
        have HL209_0 := Aside0.mk (show Kd.R (Kd.int .i32) 21 _ _ _ _ (rd_L1 t202 x8_2) from ge209_0)
        clear hv209_0 ge209_0
        clear hcc209 hce209
        have HR209_0 := Aside0.mk hi209_0
        have HC209_0 := Aside0.mk hl209_0
        clear hi209_0 hl209_0
        replace p209 := eq_true p209
        replace q209 := eq_true q209
        have p210 : 0 ≤ (x8_2 : Int) := sqD
        have q210 : x8_2 < (x4_1.length : Int) := sqD
        obtain ⟨ad210, A210_0, c210_0, e210, hx210_0, hl210_0, hi210_0⟩ := at_L1 (Kd.S_reads' HO_4.out).2.2 x8_2 p210 q210
        obtain rfl : ad208 = ad210 := (by injection e210)
        obtain ⟨ce210, hce210, hMe210, hcc210⟩ := Kd.S_get HO_4.out [] x8_2 p210 (by first | exact q210 | exact sqD | (have e_ := (Kd.S_reads' HO_4.out).1; omega))
        obtain ⟨ve210_0, rfl, ge210_0⟩ := hMe210
        have hv210_0 := hcc210 0 _ rfl
        rw [Nat.add_zero, show ((Kd.slice 21 (Kd.int .i32))).sz = 1 from rfl, Nat.mul_one] at hv210_0
        replace hv210_0 := Option.some.inj (hv210_0.symm.trans hx210_0)
        rw [hv210_0] at ge210_0
        have HL210_0 := Aside0.mk (show Kd.R (Kd.int .i32) 21 _ _ _ _ (rd_L1 x4_1 x8_2) from ge210_0)
        clear hv210_0 ge210_0
        clear hcc210 hce210
        have HR210_0 := Aside0.mk hi210_0
        have HC210_0 := Aside0.mk hl210_0
        clear hi210_0 hl210_0
        replace p210 := eq_true p210
        replace q210 := eq_true q210
        have ea_ := Option.some.inj (hx208_0.symm.trans hx210_0)
        injection ea_ with ea_ en_ ec_
        subst ea_
        subst ec_
        clear en_
        have p211 : 0 ≤ (x8_2 : Int) := sqD
        have q211 : x8_2 < (t202.length : Int) := sqD
        obtain ⟨ad211, A211_0, c211_0, e211, hx211_0, hl211_0, hi211_0⟩ := at_L1 (Kd.S_reads' HO_5.out).2.2 x8_2 p211 q211
        obtain rfl : ad209 = ad211 := (by injection e211)
        obtain ⟨ce211, hce211, hMe211, hcc211⟩ := Kd.S_get HO_5.out [] x8_2 p211 (by first | exact q211 | exact sqD | (have e_ := (Kd.S_reads' HO_5.out).1; omega))
        obtain ⟨ve211_0, rfl, ge211_0⟩ := hMe211
        have hv211_0 := hcc211 0 _ rfl
        rw [Nat.add_zero, show ((Kd.slice 21 (Kd.int .i32))).sz = 1 from rfl, Nat.mul_one] at hv211_0
        replace hv211_0 := Option.some.inj (hv211_0.symm.trans hx211_0)
        rw [hv211_0] at ge211_0
        have HL211_0 := Aside0.mk (show Kd.R (Kd.int .i32) 21 _ _ _ _ (rd_L1 t202 x8_2) from ge211_0)
        clear hv211_0 ge211_0
        clear hcc211 hce211
        have HR211_0 := Aside0.mk hi211_0
        have HC211_0 := Aside0.mk hl211_0
        clear hi211_0 hl211_0
        replace p211 := eq_true p211
        replace q211 := eq_true q211
        have ea_ := Option.some.inj (hx209_0.symm.trans hx211_0)
        injection ea_ with ea_ en_ ec_
        subst ea_
        subst ec_
        clear en_
        have p212 : 0 ≤ (((rd_L1 t202 x8_2).length : Int) : Int) := sqD
        have q212 : ((rd_L1 t202 x8_2).length : Int) < ((rd_L1 x4_1 x8_2).length : Int) := sqD
        obtain ⟨ad212, e212, hx212_0⟩ := Kd.at_int (by repeat (first | (with_reducible exact HR210_0.out) | (with_reducible refine Kd.C_alloc ?_ _) | (with_reducible refine Kd.C_drewN ?_ _) | (with_reducible refine Kd.C_drew ?_) | exact HR210_0.out)) ((rd_L1 t202 x8_2).length : Int) p212 q212
        cases e212
        (try simp only [Go.IntWalk.toNatUp] at hx212_0)
        replace p212 := eq_true p212
        replace q212 := eq_true q212
        go_wp2
        repeat (go_quiet (fail); try go_wp2)
        go_roundg k2
        case measure => have := HJ4.out; have := HK2.out; omega
        case rel => exact ⟨(wrap64 (x8_2 + 1)), sqE, H', ⟨by have := HJ4.out; have := HK2.out; omega⟩, ⟨sqR HO_3.out⟩, ⟨by (with_reducible repeat (first | apply Kd.S_alloc | apply Kd.S_drewN | apply Kd.S_drew)); exact HO_4.out⟩, ⟨by (with_reducible repeat (first | apply Kd.S_alloc | apply Kd.S_drewN | apply Kd.S_drew)); exact HO_5.out⟩, ⟨by (with_reducible repeat (first | apply Rm.Room.alloc | apply Rm.Room.drewN | apply Rm.Room.drew)); exact HRm.out⟩, ⟨sqB⟩⟩
     rw [if_pos c7] at H
     have c7b0 := decide_eq_true c7
     clear c7
     have H' := Aside0.mk H
     clear H
     obtain ⟨Ao8, co8, eo8⟩ := Kd.S_slice HO_4.out
     subst eo8
     go_wp2
     go_loopg [7] k1 (fun kq v7 w' => ∃ (x4_2 : List (List Int)) (x7_2 : Int), v7 = .int .i64 x7_2 ∧ Aside0 (Splits1.l1 kq x4_2 x6_1 x7_2 = some yl) ∧ Aside0 (kq ≤ k1) ∧ Aside0 (Rm.Keep KS wc w') ∧ Aside0 (Kd.S (Kd.slice 21 (Kd.int .i32)) 22 w' w.heap.size (fun k_ => ¬ KS k_) (.slice Ao8 x4_1.length co8) x4_2) ∧ Aside0 (Below w.heap.size w w'))
     case atStart => exact ⟨(x4_1), (0), sqE, H', ⟨Nat.le_refl _⟩, ⟨by (with_reducible repeat (first | apply Rm.Keep.alloc | apply Rm.Keep.drewN | apply Rm.Keep.drew)); exact HKp.out⟩, ⟨by (with_reducible repeat (first | apply Kd.S_alloc | apply Kd.S_drewN | apply Kd.S_drew)); exact HO_4.out⟩, ⟨sqB⟩⟩
     case round =>
      clear H'
      try clear p2
      try clear c3
      try clear c4
      try clear c5
      try clear c7
      try clear c7b0
      try clear p2
      clear HKp HO_4 HB
      obtain ⟨x4_2, x7_2, rfl, HA, HKb, HKp, HO_4, HB⟩ := hrel
      have hl4_2 := (Kd.S_reads' HO_4.out).1
      rw [hl4_2] at HO_4
      (try simp only [hl4_2])
      cases gk with
      | zero => exact absurd HA.out (by simp [Splits1.l1])
      | succ k2 =>
       have H := HA.out
       clear HA
       simp only [Splits1.l1] at H
       by_cases c9 : 0 ≤ x6_1
       case neg => rw [if_neg c9] at H; exact absurd H (by simp)
       rw [if_pos c9] at H
       have c9b0 := decide_eq_true c9
       clear c9
       by_cases c10 : x6_1 < (x4_2.length : Int)
       case neg => rw [if_neg c10] at H; exact absurd H (by simp)
       rw [if_pos c10] at H
       have c10b0 := decide_eq_true c10
       clear c10
       by_cases c11 : x7_2 < ((rd_L1 x4_2 x6_1).length : Int)
       case neg =>
        rw [if_neg c11] at H
        have c11b0 := decide_eq_false c11
        clear c11
        obtain ⟨y209, hy209⟩ : ∃ y_ : List Int, y_ = (([(-9), (-9)] : List Int)) := ⟨_, rfl⟩
        replace H : (if (rd_L1 x4_2 x6_1).length + y209.length < 35184372088832 then (Splits1.l0 k2 (x4_2.set (x6_1 : Int).toNat ((rd_L1 x4_2 x6_1) ++ y209)) (wrap64 (x6_1 + 1))) else (none)) = some yl := by first | (rw [hy209]; with_reducible exact H) | (have H2_ := (Option.bind_some _ _).symm.trans H; rw [hy209]; with_reducible exact H2_) | (have H2_ := (Option.bind_some _ _).symm.trans H; with_reducible exact H2_) | with_reducible exact H | (rw [hy209]; exact H) | exact H
        have Ny209 := Aside0.mk hy209
        clear hy209
        by_cases c16 : (rd_L1 x4_2 x6_1).length + y209.length < 35184372088832
        case neg => rw [if_neg c16] at H; exact absurd H (by simp)
        rw [if_pos c16] at H
        have LMc16 := Aside0.mk c16
        clear c16
        obtain ⟨y212, hy212⟩ : ∃ y_ : List Int, y_ = ((rd_L1 x4_2 x6_1) ++ y209) := ⟨_, rfl⟩
        replace H : (Splits1.l0 k2 (x4_2.set (x6_1 : Int).toNat y212) (wrap64 (x6_1 + 1))) = some yl := by first | (rw [hy212]; with_reducible exact H) | (have H2_ := (Option.bind_some _ _).symm.trans H; rw [hy212]; with_reducible exact H2_) | (have H2_ := (Option.bind_some _ _).symm.trans H; with_reducible exact H2_) | with_reducible exact H | (rw [hy212]; exact H) | exact H
        have Ny212 := Aside0.mk hy212
        clear hy212
        obtain ⟨y215, hy215⟩ : ∃ y_ : List (List Int), y_ = (x4_2.set (x6_1 : Int).toNat y212) := ⟨_, rfl⟩
        replace H : (Splits1.l0 k2 y215 (wrap64 (x6_1 + 1))) = some yl := by first | (rw [hy215]; with_reducible exact H) | (have H2_ := (Option.bind_some _ _).symm.trans H; rw [hy215]; with_reducible exact H2_) | (have H2_ := (Option.bind_some _ _).symm.trans H; with_reducible exact H2_) | with_reducible exact H | (rw [hy215]; exact H) | exact H
        have Ny215 := Aside0.mk hy215
        clear hy215
        have H' := Aside0.mk H
        clear H
        have p203 : 0 ≤ (x6_1 : Int) := sqD
        have q203 : x6_1 < (x4_2.length : Int) := sqD
        obtain ⟨ad203, A203_0, c203_0, e203, hx203_0, hl203_0, hi203_0⟩ := at_L1 (Kd.S_reads' HO_4.out).2.2 x6_1 p203 q203
        cases e203
        obtain ⟨ce203, hce203, hMe203, hcc203⟩ := Kd.S_get HO_4.out [] x6_1 p203 (by first | exact q203 | exact sqD | (have e_ := (Kd.S_reads' HO_4.out).1; omega))
        obtain ⟨ve203_0, rfl, ge203_0⟩ := hMe203
        have hv203_0 := hcc203 0 _ rfl
        rw [Nat.add_zero, show ((Kd.slice 21 (Kd.int .i32))).sz = 1 from rfl, Nat.mul_one] at hv203_0
        replace hv203_0 := Option.some.inj (hv203_0.symm.trans hx203_0)
        rw [hv203_0] at ge203_0
        have HL203_0 := Aside0.mk (show Kd.R (Kd.int .i32) 21 _ _ _ _ (rd_L1 x4_2 x6_1) from ge203_0)
        clear hv203_0 ge203_0
        have HX203_0 := Aside0.mk hx203_0
        clear hcc203 hce203
        have HR203_0 := Aside0.mk hi203_0
        have HC203_0 := Aside0.mk hl203_0
        clear hi203_0 hl203_0
        replace p203 := eq_true p203
        replace q203 := eq_true q203
        have p208 : 0 ≤ (x6_1 : Int) := sqD
        have q208 : x6_1 < (x4_2.length : Int) := sqD
        obtain ⟨ad208, A208_0, c208_0, e208, hx208_0, hl208_0, hi208_0⟩ := at_L1 (Kd.S_reads' HO_4.out).2.2 x6_1 p208 q208
        obtain rfl : ad203 = ad208 := (by injection e208)
        obtain ⟨ce208, hce208, hMe208, hcc208⟩ := Kd.S_get HO_4.out [] x6_1 p208 (by first | exact q208 | exact sqD | (have e_ := (Kd.S_reads' HO_4.out).1; omega))
        obtain ⟨ve208_0, rfl, ge208_0⟩ := hMe208
        have hv208_0 := hcc208 0 _ rfl
        rw [Nat.add_zero, show ((Kd.slice 21 (Kd.int .i32))).sz = 1 from rfl, Nat.mul_one] at hv208_0
        replace hv208_0 := Option.some.inj (hv208_0.symm.trans hx208_0)
        rw [hv208_0] at ge208_0
        have HL208_0 := Aside0.mk (show Kd.R (Kd.int .i32) 21 _ _ _ _ (rd_L1 x4_2 x6_1) from ge208_0)
        clear hv208_0 ge208_0
        have HX208_0 := Aside0.mk hx208_0
        clear hcc208 hce208
        have HR208_0 := Aside0.mk hi208_0
        have HC208_0 := Aside0.mk hl208_0
        clear hi208_0 hl208_0
        replace p208 := eq_true p208
        replace q208 := eq_true q208
        have ea_ := Option.some.inj (hx203_0.symm.trans hx208_0)
        injection ea_ with ea_ en_ ec_
        subst ea_
        subst ec_
        clear en_
        go_wp2_with (first | ((with_reducible refine gate_dst (N := 56) rfl ?_); refine Kd.R_lit (Kd.int .i32) _ 21 ?hg (N := 56) ?hd (xs := ([(-9), (-9)] : List Int)) (inner := [.int .i32 (-9), .int .i32 (-9)]) (ok := fun _ => True) (okp := fun _ => True) ?hr ?hp (fun _ hk => hk) trivial (Below.refl _ _) (Nat.le_refl _) (by simp) ?_; (case hd => rfl); (case hg => rfl); (case hr => first | (go_simp; done) | (go_simp; rfl)); (case hp => exact (Reps.one (show Kd.M (Kd.int .i32) _ _ _ (-9) [.int .i32 (-9)] from rfl) (Reps.one (show Kd.M (Kd.int .i32) _ _ _ (-9) [.int .i32 (-9)] from rfl) (Reps.none _ _)))); intro v210 w18 ho19 hb hg_ hnew_; clear hg_ hnew_; (first | rw [← Ny209.out] at ho19 | (simp only [Int.reduceToNat] at ho19; rw [← Ny209.out] at ho19)); have n0_ := Aside0.mk (Rm.Keep.below (by (with_reducible repeat (first | apply Rm.Keep.alloc | apply Rm.Keep.drewN | apply Rm.Keep.drew)); exact HKp.out) hb); have n1_ := Aside0.mk (Kd.S_elder' (by (with_reducible repeat (first | apply Kd.S_alloc | apply Kd.S_drewN | apply Kd.S_drew)); exact HO_4.out) (Kd.R_base ho19) hb); have n2_ := Aside0.mk (Kd.R_elder' (sqR HL203_0.out) (Kd.R_base ho19) hb); have n3_ := Aside0.mk (Kd.R_elder' (sqR HL208_0.out) (Kd.R_base ho19) hb); have n4_ := Aside0.mk (Kd.R_lower (Kd.R_new' (Kd.R_new' ho19 (Kd.R_lt (sqR HL203_0.out))) (Kd.R_lt (sqR HL208_0.out))) (below_size sqB)); have n5_ := Aside0.mk (Kd.C_below (by repeat (first | (with_reducible exact HR203_0.out) | (with_reducible refine Kd.C_alloc ?_ _) | (with_reducible refine Kd.C_drewN ?_ _) | (with_reducible refine Kd.C_drew ?_) | exact HR203_0.out)) hb); have n6_ := Aside0.mk (pw_cell_below hb HX203_0.out); have n7_ := Aside0.mk (Kd.C_below (by repeat (first | (with_reducible exact HR208_0.out) | (with_reducible refine Kd.C_alloc ?_ _) | (with_reducible refine Kd.C_drewN ?_ _) | (with_reducible refine Kd.C_drew ?_) | exact HR208_0.out)) hb); have n8_ := Aside0.mk (pw_cell_below hb HX208_0.out); have n9_ := Aside0.mk (below_step sqB hb); clear HKp; clear HO_4; clear HL203_0; clear HL208_0; clear HR203_0; clear HX203_0; clear HR208_0; clear HX208_0; clear HB; have HKp := n0_; have HO_4 := n1_; have HL203_0 := n2_; have HL208_0 := n3_; have HO211 := n4_; have HR203_0 := n5_; have HX203_0 := n6_; have HR208_0 := n7_; have HX208_0 := n8_; have HB := n9_; clear n0_ n1_ n2_ n3_ n4_ n5_ n6_ n7_ n8_ n9_; clear hb ho19; obtain ⟨Ao22, co22, eo22⟩ := Kd.R_slice HO211.out; subst eo22; obtain ⟨go20, co20, eo20, gb20, gl20, cl20, HG20⟩ := Kd.S_form HO_4.out (by have h_ : (x6_1 : Int) < ((x4_2.length : Int) : Int) := sqD; have h2_ : 0 ≤ (x6_1 : Int) := sqD; omega); (first | cases eo20 | (injection eo20 with ea_ en_ ec_; (first | subst ea_ | (injection ea_ with ea_; subst ea_)); subst ec_; clear en_)); have HK20 := Aside0.mk ((Kd.S_R HO_4.out).1 go20 rfl).1; have GB20 := Aside0.mk gb20; have GG20 := Aside0.mk HG20; clear gb20 gl20 HG20; (first | simp only [add_plain] at hx203_0 | skip); (first | simp only [add_plain] at hx204_0 | skip); (first | simp only [add_plain] at hx208_0 | skip); obtain ⟨oki20, ce20, hcl20, hM20, hcc20, _, _, hH20⟩ := Kd.S_elem HO_4.out [] (x6_1 : Int) sqD (by have h_ : (x6_1 : Int) < ((x4_2.length : Int) : Int) := sqD; first | exact h_ | (have e_ := (Kd.S_reads' HO_4.out).1; omega) | simpa using h_); obtain ⟨ve20_0, rfl, ge20_0⟩ := hM20; have hv20 := hcc20 0 _ rfl; have hX20 := HX208_0.out; (try simp only [add_plain] at hX20); (try simp only [Nat.add_zero] at hv20); (try rw [show ((Kd.slice 21 (Kd.int .i32))).sz = 1 from rfl, Nat.mul_one] at hv20); replace hv20 := Option.some.inj (hv20.symm.trans hX20); subst hv20; clear hX20 hcc20 hcl20; have UU20 := Aside0.mk (show Kd.R (Kd.int .i32) 21 _ w.heap.size oki20 (.slice A203_0 (rd_L1 x4_2 x6_1).length c203_0) (rd_L1 x4_2 x6_1) from ge20_0); have HH20 := Aside0.mk hH20; have HN20 := Aside0.mk (Kd.S_reads' HO_4.out).1; clear hH20 ge20_0) | ((with_reducible refine gate_builtin (b := .append) (xs := #[.tmp 55, .tmp 56]) rfl ?_); at_builtin; refine Kd.R_append_rows (Kd.int .i32) (w0 := w) w.heap.size rfl (.tmp 55) (.tmp 56) 22 21 (.int .i32 0) 4 rfl Try.underlying22 info21 rfl (by decide) (by omega) (.slice A203_0 (rd_L1 x4_2 x6_1).length c203_0) (rd_L1 x4_2 x6_1) y209 _ _ _ (fun k_ => oki20 k_ ∨ ((fun k_ => ¬ KS k_ ∧ some k_ ≠ (.slice Ao22 y209.length co22 : Value).ownBlock)) k_ ∧ w18.heap.size ≤ k_) (fun _ => False) rfl rfl ?aO ?aR (fun _ _ h => h) (fun _ h => h.elim) ?aF ?aB ?aS ?aL ?_; (case aR => repeat (first | exact (Kd.R_reads' HO211.out).2.2 | (with_reducible refine Kd.C_alloc ?_ _) | (with_reducible refine Kd.C_drewN ?_ _) | (with_reducible refine Kd.C_drew ?_))); (case aB => exact sqB); (case aF => exact (fun k_ hk => .inr ⟨⟨Rm.Keep.fresh (by (with_reducible repeat (first | apply Rm.Keep.alloc | apply Rm.Keep.drewN | apply Rm.Keep.drew)); exact HKp.out) k_ hk, Kd.fresh' (Kd.R_lt (sqR HO211.out)) k_ hk⟩, hk⟩)); (case aO => exact (by (with_reducible repeat (first | apply Kd.R_alloc | apply Kd.R_drewN | apply Kd.R_drew)); exact Kd.R_mono UU20.out (fun _ hk => .inl hk))); (case aS => exact (below_size sqB)); (case aL => have := LMc16.out; omega); intro v213 w21 ho hb hg hat; rw [← Ny212.out] at ho; have n0_ := Aside0.mk (Rm.Keep.grown (by (with_reducible repeat (first | apply Rm.Keep.alloc | apply Rm.Keep.drewN | apply Rm.Keep.drew)); exact HKp.out) hg (fun k_ e_ => (HL208_0.out.1 k_ e_).1.1)); have n1_ := Aside0.mk (Kd.R_grown2 (sqR HO211.out) rfl hg (fun k_ e_ => (HL208_0.out.1 k_ e_).2)); have n2_ := Aside0.mk (hb); have n3_ := Aside0.mk (Kd.H_grown (Kd.H_widen (by repeat (first | exact HH20.out | refine Kd.H_alloc ?_ _ | refine Kd.H_drewN ?_ _ | refine Kd.H_drew ?_))) hg (fun k_ e_ => .inl (UU20.out.1 k_ e_))); have n4_ := Aside0.mk (ho); clear HKp; clear HO211; clear HB; clear HH20; clear HO_4; clear UU20; clear HL203_0; clear HL208_0; have HKp := n0_; have HO211 := n1_; have HB := n2_; have HH20 := n3_; have HO214 := n4_; clear n0_ n1_ n2_ n3_ n4_; clear ho hb hg hat; have p17 : 0 ≤ (x6_1 : Int) := sqD; have q17 : (x6_1 : Int) < ((x4_2.length : Int) : Int) := sqD; replace p17 := eq_true p17; replace q17 := eq_true q17; obtain ⟨Ao25, co25, eo25⟩ := Kd.R_slice HO214.out; subst eo25; obtain ⟨_, _, hraw23, _, _, hcc23, _⟩ := Kd.H_raw HH20.out sqD (by have h_ : (x6_1 : Int) < ((x4_2.length : Int) : Int) := sqD; first | exact h_ | (have e_ := (HN20.out); omega) | simpa using h_); obtain ⟨_, hfr23⟩ := Kd.H_at HH20.out sqD (by have h_ : (x6_1 : Int) < ((x4_2.length : Int) : Int) := sqD; first | exact h_ | (have e_ := (HN20.out); omega) | simpa using h_); have hx23_0 := hcc23 0 _ rfl; have hf23_0 := hfr23 0; (try simp only [Nat.add_zero] at hx23_0 hf23_0); (try rw [show ((Kd.slice 21 (Kd.int .i32))).sz = 1 from rfl, Nat.mul_one] at hx23_0); (try rw [show ((Kd.slice 21 (Kd.int .i32))).sz = 1 from rfl, Nat.mul_one] at hf23_0); have HP23 := Kd.S_seg0 HH20.out sqD (by have h_ : (x6_1 : Int) < ((x4_2.length : Int) : Int) := sqD; first | exact h_ | (have e_ := (HN20.out); omega) | simpa using h_) (seg := [.slice Ao25 y212.length co25]) (j := 0) (show 1 ≤ 1 from by decide) (x' := y212) (Kd.M_row HO214.out) (fun _ hk => hk); (try simp only [show ((Kd.slice 21 (Kd.int .i32))).sz = 1 from rfl, Nat.mul_one, Nat.add_zero] at HP23); clear hcc23 hfr23) | ((with_reducible refine gate_store (t := 22) (p := 58) rfl ?_); refine store_event (t := 22) (p := 58) (v := ?vo_w24) (w1 := (w21.setCell ⟨go20, (x6_1 : Int).toNat, none⟩ (.slice Ao25 y212.length co25))) ?hg ?ho ?hn ?hr ?_; (case ho => rfl); (case hg => rfl); (case hn => rfl); (case hr => first | (go_simp; done) | (go_simp; rfl)); intro w24 hw; have hg : w21.grownBy w24 (some go20) := (by rw [hw]; exact HP23.2); have hp_ : Kd.S (Kd.slice 21 (Kd.int .i32)) 22 w24 w.heap.size (fun k_ => ¬ KS k_ ∧ some k_ ≠ (.slice Ao22 y209.length co22 : Value).ownBlock) (.slice (some ⟨go20, 0, none⟩) x4_2.length co8) y215 := (by rw [hw, Ny215.out]; exact HP23.1); clear HP23; have n0_ := Aside0.mk (Rm.Keep.grown (by (with_reducible repeat (first | apply Rm.Keep.alloc | apply Rm.Keep.drewN | apply Rm.Keep.drew)); exact HKp.out) hg (fun k_ e_ => by injection e_ with e_; subst e_; exact HK20.out)); have n1_ := Aside0.mk (Kd.R_over' (v := (.slice (some ⟨go20, 0, none⟩) x4_2.length co8)) (sqR HO211.out) (Kd.R_typed hraw23) (by decide) hg); have n2_ := Aside0.mk ((by rw [hw]; exact below_set HB.out GB20.out : Below w.heap.size w w24)); have n3_ := Aside0.mk (hp_); clear HKp; clear HO211; clear HB; clear HO214; clear HH20; have HKp := n0_; have HO211 := n1_; have HB := n2_; have HO_4 := n3_; clear n0_ n1_ n2_ n3_; clear hg hw hp_ hraw23))
        (try simp only [← hl4_2])
        go_roundg k2
        case measure => have := HKa.out; have := HKb.out; omega
        case rel => exact ⟨(y215), (wrap64 (x6_1 + 1)), sqE, H', ⟨by have := HKa.out; have := HKb.out; omega⟩, ⟨by (with_reducible repeat (first | apply Rm.Keep.alloc | apply Rm.Keep.drewN | apply Rm.Keep.drew)); exact HKp.out⟩, ⟨by (try simp only [hl4_2]); (with_reducible repeat (first | apply Kd.S_alloc | apply Kd.S_drewN | apply Kd.S_drew)); exact Kd.S_mono HO_4.out (fun _ hk => hk.1)⟩, ⟨sqB⟩⟩
       rw [if_pos c11] at H
       have c11b0 := decide_eq_true c11
       clear c11
       by_cases c12 : 0 ≤ x7_2
       case neg => rw [if_neg c12] at H; exact absurd H (by simp)
       rw [if_pos c12] at H
       have c12b0 := decide_eq_true c12
       clear c12
       obtain ⟨y205, hy205⟩ : ∃ y_ : List Int, y_ = ((rd_L1 x4_2 x6_1).set (x7_2 : Int).toNat (-9)) := ⟨_, rfl⟩
       replace H : (Splits1.l1 k2 (x4_2.set (x6_1 : Int).toNat y205) x6_1 (wrap64 (x7_2 + 1))) = some yl := by first | (rw [hy205]; with_reducible exact H) | (have H2_ := (Option.bind_some _ _).symm.trans H; rw [hy205]; with_reducible exact H2_) | (have H2_ := (Option.bind_some _ _).symm.trans H; with_reducible exact H2_) | with_reducible exact H | (rw [hy205]; exact H) | exact H
       have Ny205 := Aside0.mk hy205
       clear hy205
       obtain ⟨y207, hy207⟩ : ∃ y_ : List (List Int), y_ = (x4_2.set (x6_1 : Int).toNat y205) := ⟨_, rfl⟩
       replace H : (Splits1.l1 k2 y207 x6_1 (wrap64 (x7_2 + 1))) = some yl := by first | (rw [hy207]; with_reducible exact H) | (have H2_ := (Option.bind_some _ _).symm.trans H; rw [hy207]; with_reducible exact H2_) | (have H2_ := (Option.bind_some _ _).symm.trans H; with_reducible exact H2_) | with_reducible exact H | (rw [hy207]; exact H) | exact H
       have Ny207 := Aside0.mk hy207
       clear hy207
       have H' := Aside0.mk H
       clear H
       have p203 : 0 ≤ (x6_1 : Int) := sqD
       have q203 : x6_1 < (x4_2.length : Int) := sqD
       obtain ⟨ad203, A203_0, c203_0, e203, hx203_0, hl203_0, hi203_0⟩ := at_L1 (Kd.S_reads' HO_4.out).2.2 x6_1 p203 q203
       cases e203
       obtain ⟨ce203, hce203, hMe203, hcc203⟩ := Kd.S_get HO_4.out [] x6_1 p203 (by first | exact q203 | exact sqD | (have e_ := (Kd.S_reads' HO_4.out).1; omega))
       obtain ⟨ve203_0, rfl, ge203_0⟩ := hMe203
       have hv203_0 := hcc203 0 _ rfl
       rw [Nat.add_zero, show ((Kd.slice 21 (Kd.int .i32))).sz = 1 from rfl, Nat.mul_one] at hv203_0
       replace hv203_0 := Option.some.inj (hv203_0.symm.trans hx203_0)
       rw [hv203_0] at ge203_0
       have HL203_0 := Aside0.mk (show Kd.R (Kd.int .i32) 21 _ _ _ _ (rd_L1 x4_2 x6_1) from ge203_0)
       clear hv203_0 ge203_0
       have HX203_0 := Aside0.mk hx203_0
       clear hcc203 hce203
       have HR203_0 := Aside0.mk hi203_0
       have HC203_0 := Aside0.mk hl203_0
       clear hi203_0 hl203_0
       replace p203 := eq_true p203
       replace q203 := eq_true q203
       have p204 : 0 ≤ (x6_1 : Int) := sqD
       have q204 : x6_1 < (x4_2.length : Int) := sqD
       obtain ⟨ad204, A204_0, c204_0, e204, hx204_0, hl204_0, hi204_0⟩ := at_L1 (Kd.S_reads' HO_4.out).2.2 x6_1 p204 q204
       obtain rfl : ad203 = ad204 := (by injection e204)
       obtain ⟨ce204, hce204, hMe204, hcc204⟩ := Kd.S_get HO_4.out [] x6_1 p204 (by first | exact q204 | exact sqD | (have e_ := (Kd.S_reads' HO_4.out).1; omega))
       obtain ⟨ve204_0, rfl, ge204_0⟩ := hMe204
       have hv204_0 := hcc204 0 _ rfl
       rw [Nat.add_zero, show ((Kd.slice 21 (Kd.int .i32))).sz = 1 from rfl, Nat.mul_one] at hv204_0
       replace hv204_0 := Option.some.inj (hv204_0.symm.trans hx204_0)
       rw [hv204_0] at ge204_0
       have HL204_0 := Aside0.mk (show Kd.R (Kd.int .i32) 21 _ _ _ _ (rd_L1 x4_2 x6_1) from ge204_0)
       clear hv204_0 ge204_0
       have HX204_0 := Aside0.mk hx204_0
       clear hcc204 hce204
       have HR204_0 := Aside0.mk hi204_0
       have HC204_0 := Aside0.mk hl204_0
       clear hi204_0 hl204_0
       replace p204 := eq_true p204
       replace q204 := eq_true q204
       have ea_ := Option.some.inj (hx203_0.symm.trans hx204_0)
       injection ea_ with ea_ en_ ec_
       subst ea_
       subst ec_
       clear en_
       have p13 : 0 ≤ (x7_2 : Int) := sqD
       have q13 : (x7_2 : Int) < (((rd_L1 x4_2 x6_1).length : Int) : Int) := sqD
       obtain ⟨go13, co13, eo13, gb13, gl13, cl13, HG13⟩ := Kd.R_form HL204_0.out (by omega)
       (first | cases eo13 | (injection eo13 with ea_ en_ ec_; (first | subst ea_ | (injection ea_ with ea_; subst ea_)); subst ec_; clear en_))
       have GB13 := Aside0.mk gb13
       have GG13 := Aside0.mk HG13
       clear gb13 gl13 HG13
       obtain ⟨hx13_0, hf13_0⟩ := Kd.R_celln 0 HL204_0.out (x7_2 : Int) p13 q13
       replace p13 := eq_true p13
       replace q13 := eq_true q13
       have hq14 : (x6_1 : Int) < (x4_2.length : Int) := (by have h_ : (x6_1 : Int) < ((x4_2.length : Int) : Int) := sqD; first | exact h_ | (have e_ := (Kd.S_reads' HO_4.out).1; omega) | simpa only [List.length_set, List.length_set] using h_)
       obtain ⟨oki14, ce14, hcl14, hM14, hcc14, hok14, hbk14⟩ := Kd.S_borrow HO_4.out [] (x6_1 : Int) sqD hq14
       obtain ⟨ve14_0, rfl, ge14_0⟩ := hM14
       have hv14 := hcc14 0 _ rfl
       rw [Nat.add_zero, show ((Kd.slice 21 (Kd.int .i32))).sz = 1 from rfl, Nat.mul_one] at hv14
       replace hv14 := Option.some.inj (hv14.symm.trans HX204_0.out)
       subst hv14
       clear hcc14 hcl14
       replace ge14_0 := (show Kd.R (Kd.int .i32) 21 _ _ _ _ (rd_L1 x4_2 x6_1) from ge14_0)
       have HP14 := Kd.R_putg ge14_0 (x7_2 : Int) (-9)
       go_wp2_with (first | ((with_reducible refine gate_store (t := 21) (p := 49) rfl ?_); refine store_event (t := 21) (p := 49) (v := ?vo_w15) (w1 := (wr.setCell ⟨go13, (x7_2 : Int).toNat, none⟩ (.int .i32 (-9)))) ?hg ?ho ?hn ?hr ?_; (case ho => rfl); (case hg => rfl); (case hn => rfl); (case hr => first | (go_simp; done) | (go_simp; rfl)); intro w15 hw; have hg : wr.grownBy w15 (some go13) := (by rw [hw]; exact HP14.2); have hz_ : Kd.R (Kd.int .i32) 21 w15 w.heap.size oki14 (.slice (some ⟨go13, 0, none⟩) (rd_L1 x4_2 x6_1).length c203_0) y205 := (by rw [hw, Ny205.out]; exact HP14.1); have hp_ : Kd.S (Kd.slice 21 (Kd.int .i32)) 22 w15 w.heap.size (fun k_ => ¬ KS k_) (.slice (some ad203) x4_2.length co8) y207 := (by rw [Ny207.out]; exact hbk14 hg (fun k_ e_ => by injection e_ with e_; subst e_; exact ge14_0.1 _ rfl) (Kd.M_row hz_)); have hm_ := Kd.R_mono hz_ hok14; clear HP14 hbk14; have n0_ := Aside0.mk (Rm.Keep.grown (by (with_reducible repeat (first | apply Rm.Keep.alloc | apply Rm.Keep.drewN | apply Rm.Keep.drew)); exact HKp.out) hg (fun k_ e_ => by injection e_ with e_; subst e_; exact (HL204_0.out.1 _ rfl).1)); have n1_ := Aside0.mk (hp_); have n2_ := Aside0.mk ((by rw [hw]; exact below_set (HB.out) GB13.out : Below w.heap.size w w15)); have n3_ := Aside0.mk (hm_); have n4_ := Aside0.mk ((Kd.R_reads' hm_).2.1); clear HKp; clear HO_4; clear HB; clear HL203_0; clear HL204_0; have HKp := n0_; have HO_4 := n1_; have HB := n2_; have HL216 := n3_; have HC206 := n4_; clear n0_ n1_ n2_ n3_ n4_; clear hg hw hp_ hz_ hm_ hok14))
       (try simp only [← hl4_2])
       go_roundg k2
       case measure => have := HKa.out; have := HKb.out; omega
       case rel => exact ⟨(y207), (wrap64 (x7_2 + 1)), sqE, H', ⟨by have := HKa.out; have := HKb.out; omega⟩, ⟨by (with_reducible repeat (first | apply Rm.Keep.alloc | apply Rm.Keep.drewN | apply Rm.Keep.drew)); exact HKp.out⟩, ⟨by (try simp only [hl4_2]); (with_reducible repeat (first | apply Kd.S_alloc | apply Kd.S_drewN | apply Kd.S_drew)); exact HO_4.out⟩, ⟨sqB⟩⟩
end Go.Proofs.Ytkgapabnokmkeaa.A
