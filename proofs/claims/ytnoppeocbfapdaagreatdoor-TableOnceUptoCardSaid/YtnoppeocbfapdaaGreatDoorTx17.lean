import Derived.Test.YtnoppeocbfapdaaGreatDoorTx0
import Derived.Test.YtnoppeocbfapdaaGreatDoorTx1
import Derived.Test.YtnoppeocbfapdaaGreatDoorTx7
import Derived.Test.YtnoppeocbfapdaaGreatDoorTx16
namespace Go.Proofs.YtnoppeocbfapdaaGreatDoor.T
open Go.RowKit Go.Proofs.YtnoppeocbfapdaaGreatDoorW.PrintWords Go.Proofs.YtnoppeocbfapdaaGreatDoorW.PrintLast Go.Proofs.YtnoppeocbfapdaaGreatDoorW.PrintMore
set_option maxHeartbeats 8000000
set_option maxRecDepth 100000
attribute [local go_sem] max2_int min2_int max_two min_two max_three min_three max_four min_four
set_option linter.unusedVariables false
set_option linter.unusedSimpArgs false
mutual
noncomputable def endonymlaw6_TableOnce.l0 : Nat → List Int → List (S25) → List (S25) → Int → Option (Bool)
 | 0, _, _, _, _ => none
 | k + 1, x1, x5, x8, x9 => if x9 ≥ 0 then (if 0 ≤ x9 then (if x9 < (x5.length : Int) then (if x8.length < 1466015503701 then (endonymlaw6_TableOnce.l0 k x1 x5 (x8 ++ [(⟨(rd_T25 x5 x9).f0, (rd_T25 x5 x9).f1, (rd_T25 x5 x9).f2, (rd_T25 x5 x9).f3, (rd_T25 x5 x9).f4, (rd_T25 x5 x9).f5, (rd_T25 x5 x9).f6, (rd_T25 x5 x9).f7⟩ : S25)]) (wrap64 (x9 - 1))) else (none)) else (none)) else (none)) else (endonymlaw6_TableOnce.l1 k x1 x5 x8 0)
noncomputable def endonymlaw6_TableOnce.l1 : Nat → List Int → List (S25) → List (S25) → Int → Option (Bool)
 | 0, _, _, _, _ => none
 | k + 1, x1, x5, x8, x10 => if x10 < (x1.length : Int) then (endonymlaw6_TableOnce.j2 k x1 x5 x8 x10 (decide (x10 < 40))) else (endonymlaw6_TableOnce.j2 k x1 x5 x8 x10 false)
noncomputable def endonymlaw6_TableOnce.j2 : Nat → List Int → List (S25) → List (S25) → Int → Bool → Option (Bool)
 | 0, _, _, _, _, _ => none
 | k + 1, x1, x5, x8, x10, x45 => if x45 = true then (endonymlaw6_TableOnce.l2 k x1 x5 x8 x10 1) else ((endonymlaw6_told.f).bind fun t552 => (some t552))
noncomputable def endonymlaw6_TableOnce.l2 : Nat → List Int → List (S25) → List (S25) → Int → Int → Option (Bool)
 | 0, _, _, _, _, _ => none
 | k + 1, x1, x5, x8, x10, x11 => if x11 ≤ 9 then (if 0 ≤ x10 then (if x10 < (x1.length : Int) then ((table_Find.f k x5 x11 (rd x1 x10)).bind fun t554 => ((table_Find.f k x8 x11 (rd x1 x10)).bind fun t556 => (if ((decide (t554 < 0)) != (decide (t556 < 0))) = true then (some false) else (if t554 ≥ 0 then (if t554 = (wrap64 ((wrap64 ((x5.length : Int) - 1)) - t556)) then (endonymlaw6_TableOnce.l2 k x1 x5 x8 x10 (wrap64 (x11 + 1))) else (some false)) else (endonymlaw6_TableOnce.l2 k x1 x5 x8 x10 (wrap64 (x11 + 1))))))) else (none)) else (none)) else (endonymlaw6_TableOnce.l1 k x1 x5 x8 (wrap64 (x10 + 1)))
end
noncomputable def endonymlaw6_TableOnce.f (k : Nat) (l0 : List (S25)) (l1 : List Int) : Option (Bool) := (endonymlaw6_few.f k l0 60).bind fun t542 => ((table_Check.f k t542).bind fun bt545 => (if bt545.2 = 0 then (endonymlaw6_TableOnce.l0 k l1 t542 ([] : List (S25)) (wrap64 ((t542.length : Int) - 1))) else ((endonymlaw6_told.f).bind fun t547 => (some t547))))
theorem endonymlaw6_TableOnce.mono_l : ∀ k, (∀ y0 y1 y2 y3, LeO (endonymlaw6_TableOnce.l0 k y0 y1 y2 y3) (endonymlaw6_TableOnce.l0 (k + 1) y0 y1 y2 y3)) ∧ (∀ y0 y1 y2 y3, LeO (endonymlaw6_TableOnce.l1 k y0 y1 y2 y3) (endonymlaw6_TableOnce.l1 (k + 1) y0 y1 y2 y3)) ∧ (∀ y0 y1 y2 y3 y4, LeO (endonymlaw6_TableOnce.j2 k y0 y1 y2 y3 y4) (endonymlaw6_TableOnce.j2 (k + 1) y0 y1 y2 y3 y4)) ∧ (∀ y0 y1 y2 y3 y4, LeO (endonymlaw6_TableOnce.l2 k y0 y1 y2 y3 y4) (endonymlaw6_TableOnce.l2 (k + 1) y0 y1 y2 y3 y4))
 | 0 => ⟨fun _ _ _ _ r h => by simp [endonymlaw6_TableOnce.l0] at h, fun _ _ _ _ r h => by simp [endonymlaw6_TableOnce.l1] at h, fun _ _ _ _ _ r h => by simp [endonymlaw6_TableOnce.j2] at h, fun _ _ _ _ _ r h => by simp [endonymlaw6_TableOnce.l2] at h⟩
 | k + 1 => by
  obtain ⟨ih0, ih1, ih2, ih3⟩ := endonymlaw6_TableOnce.mono_l k
  refine ⟨?_, ?_, ?_, ?_⟩
  ·intro y0 y1 y2 y3
   unfold endonymlaw6_TableOnce.l0
   repeat' first | (with_reducible first | apply ih0 | apply ih1 | apply ih2 | apply ih3 | apply endonymlaw6_few.mono | apply table_Check.mono | apply table_Find.mono | apply LeO.refl | apply LeO.none | refine LeO.ite ?_ ?_ | refine LeO.bind ?_ (fun _ => ?_)) | apply LeO.none | refine LeO.ite ?_ ?_ | refine LeO.bind ?_ (fun _ => ?_)
  ·intro y0 y1 y2 y3
   unfold endonymlaw6_TableOnce.l1
   repeat' first | (with_reducible first | apply ih0 | apply ih1 | apply ih2 | apply ih3 | apply endonymlaw6_few.mono | apply table_Check.mono | apply table_Find.mono | apply LeO.refl | apply LeO.none | refine LeO.ite ?_ ?_ | refine LeO.bind ?_ (fun _ => ?_)) | apply LeO.none | refine LeO.ite ?_ ?_ | refine LeO.bind ?_ (fun _ => ?_)
  ·intro y0 y1 y2 y3 y4
   unfold endonymlaw6_TableOnce.j2
   repeat' first | (with_reducible first | apply ih0 | apply ih1 | apply ih2 | apply ih3 | apply endonymlaw6_few.mono | apply table_Check.mono | apply table_Find.mono | apply LeO.refl | apply LeO.none | refine LeO.ite ?_ ?_ | refine LeO.bind ?_ (fun _ => ?_)) | apply LeO.none | refine LeO.ite ?_ ?_ | refine LeO.bind ?_ (fun _ => ?_)
  intro y0 y1 y2 y3 y4
  unfold endonymlaw6_TableOnce.l2
  repeat' first | (with_reducible first | apply ih0 | apply ih1 | apply ih2 | apply ih3 | apply endonymlaw6_few.mono | apply table_Check.mono | apply table_Find.mono | apply LeO.refl | apply LeO.none | refine LeO.ite ?_ ?_ | refine LeO.bind ?_ (fun _ => ?_)) | apply LeO.none | refine LeO.ite ?_ ?_ | refine LeO.bind ?_ (fun _ => ?_)
theorem endonymlaw6_TableOnce.mono : ∀ a0 a1 k, LeO (endonymlaw6_TableOnce.f k a0 a1) (endonymlaw6_TableOnce.f (k + 1) a0 a1) := by
 intro a0 a1 k
 obtain ⟨ih0, ih1, ih2, ih3⟩ := endonymlaw6_TableOnce.mono_l k
 unfold endonymlaw6_TableOnce.f
 repeat' first | (with_reducible first | apply ih0 | apply ih1 | apply ih2 | apply ih3 | apply endonymlaw6_few.mono | apply table_Check.mono | apply table_Find.mono | apply LeO.refl | apply LeO.none | refine LeO.ite ?_ ?_ | refine LeO.bind ?_ (fun _ => ?_)) | apply LeO.none | refine LeO.ite ?_ ?_ | refine LeO.bind ?_ (fun _ => ?_)
noncomputable def endonymlaw6_TableOnce.T16 : Bool × List (List Nat × List Nat) := (true, [([], []), ([], []), ([], []), ([], []), ([2, 3], [2, 3]), ([4], [4]), ([0, 1, 5], [0, 1, 5]), ([], []), ([], []), ([], []), ([], []), ([9, 10], [9, 10]), ([11], [11]), ([7, 8, 12, 6], [7, 8, 12]), ([6, 13, 0, 1, 2, 3, 4, 5, 6], [6]), ([13, 14, 0, 1, 2, 3, 4, 5, 6, 7, 8, 9, 10, 11, 12, 13, 14], [13])])
noncomputable def endonymlaw6_TableOnce.B16 : List Nat := [0, 0, 0, 0, 12, 28, 63, 0, 0, 0, 0, 1536, 3584, 8191, 16383, 32767]
theorem endonymlaw6_TableOnce.tab16 : rtab .any (opsOf Tryz.f11 16) = endonymlaw6_TableOnce.T16 := by kernel_rfl
theorem endonymlaw6_TableOnce.bits16 : waitsOk endonymlaw6_TableOnce.T16.2 endonymlaw6_TableOnce.B16 = true := by kernel_rfl
theorem endonymlaw6_TableOnce.calls (k : Nat) (A0 : Option Addr) (c0 : Nat) (l0 : List (S25)) (A1 : Option Addr) (c1 : Nat) (l1 : List Int) (r : Bool) (w : World) (htab : Aside0 (Rm.Tab w)) (hr0 : Kd.C k25 w A0 l0.length l0) (hc0 : l0.length ≤ c0) (hr1 : Kd.C (Kd.int .i32) w A1 l1.length l1) (hc1 : l1.length ≤ c1) (h : endonymlaw6_TableOnce.f k l0 l1 = some r) :
  Calls Tryz.prog 11 #[.slice A0 l0.length c0, .slice A1 l1.length c1] w fun e w' => e = .returned (.bool r) ∧ Below w.heap.size w w' := by
 have hu25 := Tryz.underlying25
 have HR0 := Aside0.mk hr0
 have HC0 := Aside0.mk hc0
 clear hr0 hc0
 have HR1 := Aside0.mk hr1
 have HC1 := Aside0.mk hc1
 clear hr1 hc1
 have HB := Aside0.mk (Below.refl w.heap.size w)
 have H : ((endonymlaw6_few.f k l0 60).bind fun t542 => ((table_Check.f k t542).bind fun bt545 => (if bt545.2 = 0 then (endonymlaw6_TableOnce.l0 k l1 t542 ([] : List (S25)) (wrap64 ((t542.length : Int) - 1))) else ((endonymlaw6_told.f).bind fun t547 => (some t547))))) = some r := h
 clear h
 obtain ⟨t542, A3, H⟩ := sqO H
 try dsimp only at H
 obtain ⟨⟨t545, t546⟩, A4, H⟩ := sqO H
 try dsimp only at H
 by_cases c5 : t546 = 0
 case neg =>
  rw [if_neg c5] at H
  have c5b0 := beq_eq_false_iff_ne.mpr c5
  have c5b1 := bne_iff_ne.mpr c5
  obtain ⟨t547, A43, H⟩ := sqO H
  try dsimp only at H
  obtain rfl := Option.some.inj H
  go_enter Tryz.func11, Tryz.ntmps11
  go_wp2_with (first | ((with_reducible refine gate_callee (f := 14) rfl ?_); refine goesL_ (some 15) rfl rfl Tryz.func14 (by kernel_rfl) rfl #[.slice A0 l0.length c0, .int .i64 60] rfl sqA ?_; (with_reducible refine (endonymlaw6_few.calls k _ _ l0 60 t542 _ ?side1 ?side2 A3.out).mono ?_); (case side1 => repeat (first | exact HR0.out | (with_reducible refine Kd.C_alloc ?_ _) | (with_reducible refine Kd.C_drewN ?_ _) | (with_reducible refine Kd.C_drew ?_))); (case side2 => exact HC0.out); rintro e w44 ⟨v543, rfl, ⟨ho0, _⟩, hb⟩; refine ⟨_, rfl, ?_⟩; have n0_ := Aside0.mk (Kd.N_lower (Kd.N_mono (ok' := fun k_ => True) (Kd.S_N (Kd.S_bound ho0)) (fun k_ hk_ => trivial)) (below_size sqB)); have n1_ := Aside0.mk (below_step sqB hb); clear HB; have HO544 := n0_; have HB := n1_; clear n0_ n1_; (try clear hb); (try clear hb2); (try clear hk); (try clear hi); (try clear ho0); obtain ⟨Ao45, co45, eo45⟩ := Kd.N_slice HO544.out; subst eo45) | ((with_reducible refine gate_callee (f := 21) rfl ?_); refine goesL_ (some 18) rfl rfl Tryz.func21 (by kernel_rfl) rfl #[.slice Ao45 t542.length co45] rfl sqA ?_; (with_reducible refine (table_Check.calls k _ _ t542 t545 t546 _ ?side1 ?side2 A4.out).mono ?_); (case side1 => repeat (first | exact (Kd.N_reads' HO544.out).2.2 | (with_reducible refine Kd.C_alloc ?_ _) | (with_reducible refine Kd.C_drewN ?_ _) | (with_reducible refine Kd.C_drew ?_))); (case side2 => exact (Kd.N_reads' HO544.out).2.1); rintro e w46 ⟨rfl, hb⟩; refine ⟨_, rfl, ?_⟩; have n0_ := Aside0.mk (Kd.N_below (by (with_reducible repeat (first | apply Kd.N_alloc | apply Kd.N_drewN | apply Kd.N_drew)); exact HO544.out) hb); have n1_ := Aside0.mk (below_step sqB hb); clear HO544; clear HB; have HO544 := n0_; have HB := n1_; clear n0_ n1_; (try clear hb); (try clear hb2); (try clear hk); (try clear hi)) | ((with_reducible refine gate_callee (f := 18) rfl ?_); refine goesL_ (some 23) rfl rfl Tryz.func18 (by kernel_rfl) rfl #[] rfl sqA ?_; (with_reducible refine (endonymlaw6_told.calls  t547 _ ⟨htab.out.below sqB⟩ A43.out).mono ?_); rintro e w47 ⟨rfl, hb⟩; refine ⟨_, rfl, ?_⟩; have n0_ := Aside0.mk (Kd.N_below (by (with_reducible repeat (first | apply Kd.N_alloc | apply Kd.N_drewN | apply Kd.N_drew)); exact HO544.out) hb); have n1_ := Aside0.mk (below_step sqB hb); clear HO544; clear HB; have HO544 := n0_; have HB := n1_; clear n0_ n1_; (try clear hb); (try clear hb2); (try clear hk); (try clear hi)))
  go_ret
  exact ⟨sqE', sqB⟩
 rw [if_pos c5] at H
 have c5b0 := beq_iff_eq.mpr c5
 have c5b1 := bne_eq_false_iff_eq.mpr c5
 clear c5
 have H' := Aside0.mk H
 clear H
 go_enter Tryz.func11, Tryz.ntmps11
 go_wp2_with (first | ((with_reducible refine gate_callee (f := 14) rfl ?_); refine goesL_ (some 15) rfl rfl Tryz.func14 (by kernel_rfl) rfl #[.slice A0 l0.length c0, .int .i64 60] rfl sqA ?_; (with_reducible refine (endonymlaw6_few.calls k _ _ l0 60 t542 _ ?side1 ?side2 A3.out).mono ?_); (case side1 => repeat (first | exact HR0.out | (with_reducible refine Kd.C_alloc ?_ _) | (with_reducible refine Kd.C_drewN ?_ _) | (with_reducible refine Kd.C_drew ?_))); (case side2 => exact HC0.out); rintro e w6 ⟨v543, rfl, ⟨ho0, _⟩, hb⟩; refine ⟨_, rfl, ?_⟩; have n0_ := Aside0.mk (Kd.N_lower (Kd.N_mono (ok' := fun k_ => True) (Kd.S_N (Kd.S_bound ho0)) (fun k_ hk_ => trivial)) (below_size sqB)); have n1_ := Aside0.mk (below_step sqB hb); clear HB; have HO544 := n0_; have HB := n1_; clear n0_ n1_; (try clear hb); (try clear hb2); (try clear hk); (try clear hi); (try clear ho0); obtain ⟨Ao7, co7, eo7⟩ := Kd.N_slice HO544.out; subst eo7) | ((with_reducible refine gate_callee (f := 21) rfl ?_); refine goesL_ (some 18) rfl rfl Tryz.func21 (by kernel_rfl) rfl #[.slice Ao7 t542.length co7] rfl sqA ?_; (with_reducible refine (table_Check.calls k _ _ t542 t545 t546 _ ?side1 ?side2 A4.out).mono ?_); (case side1 => repeat (first | exact (Kd.N_reads' HO544.out).2.2 | (with_reducible refine Kd.C_alloc ?_ _) | (with_reducible refine Kd.C_drewN ?_ _) | (with_reducible refine Kd.C_drew ?_))); (case side2 => exact (Kd.N_reads' HO544.out).2.1); rintro e w8 ⟨rfl, hb⟩; refine ⟨_, rfl, ?_⟩; have n0_ := Aside0.mk (Kd.N_below (by (with_reducible repeat (first | apply Kd.N_alloc | apply Kd.N_drewN | apply Kd.N_drew)); exact HO544.out) hb); have n1_ := Aside0.mk (below_step sqB hb); clear HO544; clear HB; have HO544 := n0_; have HB := n1_; clear n0_ n1_; (try clear hb); (try clear hb2); (try clear hk); (try clear hi)))
 try simp only [Act.put, List.setIfInBounds_toArray, List.set_cons_zero, List.set_cons_succ]
 go_loopg [8, 9] k (fun kq v8 v9 w' => ∃ (x8_1 : List (S25)) (x9_1 : Int), v9 = .int .i64 x9_1 ∧ Aside0 (endonymlaw6_TableOnce.l0 kq l1 t542 x8_1 x9_1 = some r) ∧ Aside0 (kq ≤ k) ∧ Aside0 (Kd.N k25 25 w' w.heap.size (fun k_ => some k_ ≠ (v8 : Value).ownBlock) (.slice Ao7 t542.length co7) t542) ∧ Aside0 (Kd.N k25 25 w' w.heap.size (fun k_ => some k_ ≠ ((.slice Ao7 t542.length co7) : Value).ownBlock) v8 x8_1) ∧ Aside0 (Below w.heap.size w w'))
 case atStart => exact ⟨(([] : List (S25))), (wrap64 ((t542.length : Int) - 1)), sqE, H', ⟨Nat.le_refl _⟩, ⟨by (with_reducible repeat (first | apply Kd.N_alloc | apply Kd.N_drewN | apply Kd.N_drew)); exact Kd.N_mono HO544.out (fun _ hk => (by simp [Value.ownBlock]))⟩, ⟨by first | exact Kd.S_nil _ _ _ _ _ | exact Kd.N_nil _ _ _ _ _ | exact Kd.V_nil _ _ _ _ _ | exact Kd.Q_nil _ _ _ _ _ | exact Kd.R_nil _ _ _ _ _⟩, ⟨sqB⟩⟩
 case round =>
  clear H'
  try clear c1
  try clear c2
  try clear p2
  try clear c5
  try clear c5b0
  try clear c5b1
  try clear p6
  obtain ⟨x8_1, x9_1, rfl, HA, HK1, HO_5, HO_8, HB⟩ := hrel
  cases gk with
  | zero => exact absurd HA.out (by simp [endonymlaw6_TableOnce.l0])
  | succ k1 =>
   have H := HA.out
   clear HA
   simp only [endonymlaw6_TableOnce.l0] at H
   by_cases c9 : x9_1 ≥ 0
   ·rw [if_pos c9] at H
    have c9b0 := decide_eq_true c9
    clear c9
    by_cases c10 : 0 ≤ x9_1
    case neg => rw [if_neg c10] at H; exact absurd H (by simp)
    rw [if_pos c10] at H
    have c10b0 := decide_eq_true c10
    clear c10
    by_cases c11 : x9_1 < (t542.length : Int)
    case neg => rw [if_neg c11] at H; exact absurd H (by simp)
    rw [if_pos c11] at H
    have c11b0 := decide_eq_true c11
    clear c11
    by_cases c12 : x8_1.length < 1466015503701
    case neg => rw [if_neg c12] at H; exact absurd H (by simp)
    rw [if_pos c12] at H
    have LMc12 := Aside0.mk c12
    clear c12
    obtain ⟨y549, hy549⟩ : ∃ y_ : List (S25), y_ = (x8_1 ++ [(⟨(rd_T25 t542 x9_1).f0, (rd_T25 t542 x9_1).f1, (rd_T25 t542 x9_1).f2, (rd_T25 t542 x9_1).f3, (rd_T25 t542 x9_1).f4, (rd_T25 t542 x9_1).f5, (rd_T25 t542 x9_1).f6, (rd_T25 t542 x9_1).f7⟩ : S25)]) := ⟨_, rfl⟩
    replace H : (endonymlaw6_TableOnce.l0 k1 l1 t542 y549 (wrap64 (x9_1 - 1))) = some r := by first | (rw [hy549]; with_reducible exact H) | (have H2_ := (Option.bind_some _ _).symm.trans H; rw [hy549]; with_reducible exact H2_) | (have H2_ := (Option.bind_some _ _).symm.trans H; with_reducible exact H2_) | with_reducible exact H | (rw [hy549]; exact H) | exact H
    have Ny549 := Aside0.mk hy549
    clear hy549
    have H' := Aside0.mk H
    clear H
    have p548 : 0 ≤ (x9_1 : Int) := sqD
    have q548 : x9_1 < (t542.length : Int) := sqD
    obtain ⟨ad548, A548_4, c548_4, e548, hx548_0, hx548_1, hx548_2, hx548_3, hx548_4, hx548_5, hx548_6, hx548_7, hl548_4, hi548_4⟩ := at_T25 (Kd.N_reads' HO_5.out).2.2 x9_1 p548 q548
    cases e548
    obtain ⟨ce548, hce548, hMe548, hcc548⟩ := Kd.N_get HO_5.out z25 x9_1 p548 (by first | exact q548 | exact sqD | (have e_ := (Kd.N_reads' HO_5.out).1; omega))
    obtain ⟨ua548_4, uc548_4, rfl, ul548_4, ge548_4⟩ := k25_openF hMe548
    have hv548_4 := hcc548 4 _ rfl
    rw [add_field _ _ 4 (by omega)] at hv548_4
    replace hv548_4 := Option.some.inj (hv548_4.symm.trans hx548_4)
    injection hv548_4 with hva_ hvn_ hvc_
    rw [hva_] at ge548_4
    rw [hvc_] at ul548_4
    have HL548_4 := Aside0.mk (show Kd.V (Kd.int .i32) 21 _ w.heap.size _ _ ((rd_T25 t542 x9_1).f4) from Kd.V_mk ul548_4 ge548_4)
    clear hva_ hvn_ hvc_ ge548_4 ul548_4
    clear hcc548 hce548
    have HR548_4 := Aside0.mk hi548_4
    have HC548_4 := Aside0.mk hl548_4
    clear hi548_4 hl548_4
    replace p548 := eq_true p548
    replace q548 := eq_true q548
    go_wp2_with (first | ((with_reducible refine gate_builtin (b := .append) (xs := #[.tmp 31, .tmp 36]) rfl ?_); (try (refine gate_guard (by rfl) ?_; dsimp only)); at_builtin; refine Kd.N_append k25 (w0 := w) w.heap.size rfl (.tmp 31) (.tmp 36) 26 25 (.agg #[(.int .i64 0), (.int .i64 0), (.int .i64 0), (.int .i64 0), (.slice none 0 0), (.string ⟨#[]⟩), (.string ⟨#[]⟩), (.float .f64 0)]) 96 rfl Tryz.underlying26 info25 rfl (by decide) (by omega) u8 x8_1 (⟨(rd_T25 t542 x9_1).f0, (rd_T25 t542 x9_1).f1, (rd_T25 t542 x9_1).f2, (rd_T25 t542 x9_1).f3, (rd_T25 t542 x9_1).f4, (rd_T25 t542 x9_1).f5, (rd_T25 t542 x9_1).f6, (rd_T25 t542 x9_1).f7⟩ : S25) [.int .i64 ((rd_T25 t542 x9_1).f0), .int .i64 ((rd_T25 t542 x9_1).f1), .int .i64 ((rd_T25 t542 x9_1).f2), .int .i64 ((rd_T25 t542 x9_1).f3), .slice A548_4 ((rd_T25 t542 x9_1).f4).length c548_4, .string ((rd_T25 t542 x9_1).f5), .string ((rd_T25 t542 x9_1).f6), .float .f64 ((rd_T25 t542 x9_1).f7)] (fun k_ => some k_ ≠ (.slice (some ad548) t542.length co7 : Value).ownBlock) (fun k_ => ((fun k_ => some k_ ≠ (.slice (some ad548) t542.length co7 : Value).ownBlock)) k_ ∧ some k_ ≠ (u8 : Value).ownBlock) rfl rfl ?aP (fun _ hk => hk) ?aF ?aO ?aB ?aS ?aL ?_; (case aP => exact (k25_mkF _ _ (⟨(rd_T25 t542 x9_1).f0, (rd_T25 t542 x9_1).f1, (rd_T25 t542 x9_1).f2, (rd_T25 t542 x9_1).f3, (rd_T25 t542 x9_1).f4, (rd_T25 t542 x9_1).f5, (rd_T25 t542 x9_1).f6, (rd_T25 t542 x9_1).f7⟩ : S25) (Kd.V_reads' (Kd.V_mono (ok' := (fun k_ => ((fun k_ => some k_ ≠ (.slice (some ad548) t542.length co7 : Value).ownBlock)) k_ ∧ some k_ ≠ (u8 : Value).ownBlock)) (HL548_4.out) (fun k_ hk => ⟨hk.2, hk.1⟩))).2.1 (Kd.V_F (Kd.V_mono (ok' := (fun k_ => ((fun k_ => some k_ ≠ (.slice (some ad548) t542.length co7 : Value).ownBlock)) k_ ∧ some k_ ≠ (u8 : Value).ownBlock)) (HL548_4.out) (fun k_ hk => ⟨hk.2, hk.1⟩))))); (case aB => exact sqB); (case aF => exact (fun k_ hk => Kd.fresh' (Kd.N_lt (by (with_reducible repeat (first | apply Kd.N_alloc | apply Kd.N_drewN | apply Kd.N_drew)); exact HO_5.out)) k_ hk)); (case aO => exact (by (with_reducible repeat (first | apply Kd.N_alloc | apply Kd.N_drewN | apply Kd.N_drew)); exact HO_8.out)); (case aS => exact (below_size sqB)); (case aL => have := LMc12.out; omega); intro v550 w13 ho hb hg hat; rw [← Ny549.out] at ho; have n0_ := Aside0.mk (Kd.N_afterv (ok := (fun _ => True)) (by (with_reducible repeat (first | apply Kd.N_alloc | apply Kd.N_drewN | apply Kd.N_drew)); exact Kd.N_mono HO_5.out (fun _ hk => ⟨trivial, hk⟩)) hg hat); have n1_ := Aside0.mk (Kd.V_afterv (ok := (fun k_ => some k_ ≠ (.slice (some ad548) t542.length co7 : Value).ownBlock)) (by (with_reducible repeat (first | apply Kd.V_alloc | apply Kd.V_drewN | apply Kd.V_drew)); exact Kd.V_mono HL548_4.out (fun _ hk => ⟨hk.2, hk.1⟩)) hg hat); have n2_ := Aside0.mk (hb); have n3_ := Aside0.mk (ho); clear HO_5; clear HL548_4; clear HB; clear HO_8; have HO_5 := n0_; have HL548_4 := n1_; have HB := n2_; have HO551 := n3_; clear n0_ n1_ n2_ n3_; clear ho hb hg hat))
    go_roundg k1
    case measure => have := HK1.out; omega
    case rel => exact ⟨(y549), (wrap64 (x9_1 - 1)), sqE, H', ⟨by have := HK1.out; omega⟩, ⟨by (with_reducible repeat (first | apply Kd.N_alloc | apply Kd.N_drewN | apply Kd.N_drew)); exact Kd.N_mono HO_5.out (fun _ hk => hk.2)⟩, ⟨by (with_reducible repeat (first | apply Kd.N_alloc | apply Kd.N_drewN | apply Kd.N_drew)); exact HO551.out⟩, ⟨sqB⟩⟩
   rw [if_neg c9] at H
   have c9b0 := decide_eq_false c9
   clear c9
   have H' := Aside0.mk H
   clear H
   go_wp2
   go_loopg [10] k1 (fun kq v10 w' => ∃ (x10_2 : Int), v10 = .int .i64 x10_2 ∧ Aside0 (endonymlaw6_TableOnce.l1 kq l1 t542 x8_1 x10_2 = some r) ∧ Aside0 (kq ≤ k1) ∧ Aside0 (Kd.N k25 25 w' w.heap.size (fun k_ => some k_ ≠ (u8 : Value).ownBlock) (.slice Ao7 t542.length co7) t542) ∧ Aside0 (Kd.N k25 25 w' w.heap.size (fun k_ => some k_ ≠ ((.slice Ao7 t542.length co7) : Value).ownBlock) u8 x8_1) ∧ Aside0 (Below w.heap.size w w'))
   case atStart => exact ⟨(0), sqE, H', ⟨Nat.le_refl _⟩, ⟨by (with_reducible repeat (first | apply Kd.N_alloc | apply Kd.N_drewN | apply Kd.N_drew)); exact HO_5.out⟩, ⟨by (with_reducible repeat (first | apply Kd.N_alloc | apply Kd.N_drewN | apply Kd.N_drew)); exact HO_8.out⟩, ⟨sqB⟩⟩
   case round =>
    clear H'
    try clear c1
    try clear c2
    try clear p2
    try clear c5
    try clear c5b0
    try clear c5b1
    try clear p5
    try clear q5
    try clear hx5
    try clear p6
    try clear c9
    try clear c9b0
    try clear c10
    try clear c10b0
    try clear c11
    try clear c11b0
    try clear c12
    try clear hx548_0
    try clear hx548_1
    try clear hx548_2
    try clear hx548_3
    try clear hx548_4
    try clear hx548_5
    try clear hx548_6
    try clear hx548_7
    try clear p2
    try clear p548
    try clear p6
    try clear q548
    obtain ⟨x10_2, rfl, HA, HK2, HO_5, HO_8, HB⟩ := hrel
    cases gk with
    | zero => exact absurd HA.out (by simp [endonymlaw6_TableOnce.l1])
    | succ k2 =>
     have H := HA.out
     clear HA
     simp only [endonymlaw6_TableOnce.l1] at H
     have HC14 := Aside0.mk H
     clear H
     go_upto_region 11 with (fail)
     go_cut [45] (fun v45 wc => ∃ (kq : Nat) (x45_13 : Bool), v45 = .bool x45_13 ∧ Aside0 (endonymlaw6_TableOnce.j2 kq l1 t542 x8_1 x10_2 x45_13 = some r) ∧ Aside0 (kq ≤ k2) ∧ Aside0 (Kd.N k25 25 wc w.heap.size (fun k_ => some k_ ≠ (u8 : Value).ownBlock) (.slice Ao7 t542.length co7) t542) ∧ Aside0 (Kd.N k25 25 wc w.heap.size (fun k_ => some k_ ≠ ((.slice Ao7 t542.length co7) : Value).ownBlock) u8 x8_1) ∧ Aside0 (Below w.heap.size w wc))
     case first =>
      have H := HC14.out
      clear HC14
      by_cases c15 : x10_2 < (l1.length : Int)
      ·rw [if_pos c15] at H
       have c15b0 := decide_eq_true c15
       clear c15
       (first | rw [c15b0] | (simp only [i64_w, i32_w]; rw [c15b0]) | skip)
       have H' := Aside0.mk H
       clear H
       go_wp2
       go_meet
       case rel => exact ⟨_, (decide (x10_2 < 40)), sqE, H', ⟨by have := HK1.out; have := HK2.out; first | omega | exact Nat.le_refl _⟩, ⟨by (with_reducible repeat (first | apply Kd.N_alloc | apply Kd.N_drewN | apply Kd.N_drew)); exact HO_5.out⟩, ⟨by (with_reducible repeat (first | apply Kd.N_alloc | apply Kd.N_drewN | apply Kd.N_drew)); exact HO_8.out⟩, ⟨sqB⟩⟩
      rw [if_neg c15] at H
      have c15b0 := decide_eq_false c15
      clear c15
      (first | rw [c15b0] | (simp only [i64_w, i32_w]; rw [c15b0]) | skip)
      have H' := Aside0.mk H
      clear H
      go_wp2
      go_meet
      case rel => exact ⟨_, (false), sqE, H', ⟨by have := HK1.out; have := HK2.out; first | omega | exact Nat.le_refl _⟩, ⟨by (with_reducible repeat (first | apply Kd.N_alloc | apply Kd.N_drewN | apply Kd.N_drew)); exact HO_5.out⟩, ⟨by (with_reducible repeat (first | apply Kd.N_alloc | apply Kd.N_drewN | apply Kd.N_drew)); exact HO_8.out⟩, ⟨sqB⟩⟩
     case rest =>
      clear HC14
      try clear c1
      try clear c2
      try clear p2
      try clear c5
      try clear c5b0
      try clear c5b1
      try clear p5
      try clear q5
      try clear hx5
      try clear p6
      try clear c9
      try clear c9b0
      try clear c10
      try clear c10b0
      try clear c11
      try clear c11b0
      try clear c12
      try clear c14
      try clear c15
      try clear c15b0
      try clear hx548_0
      try clear hx548_1
      try clear hx548_2
      try clear hx548_3
      try clear hx548_4
      try clear hx548_5
      try clear hx548_6
      try clear hx548_7
      try clear p2
      try clear p5
      try clear p548
      try clear p6
      try clear q5
      try clear q548
      obtain ⟨kq, x45_13, rfl, HA, HJ13, HO_5, HO_8, HB⟩ := hcut
      cases kq with
      | zero => exact absurd HA.out (by simp [endonymlaw6_TableOnce.j2])
      | succ kj13 =>
       have H := HA.out
       clear HA
       simp only [endonymlaw6_TableOnce.j2] at H
       by_cases c16 : x45_13 = true
       case neg =>
        replace c16 := Bool.eq_false_iff.mpr c16
        subst c16
        have H1 : ((endonymlaw6_told.f).bind fun t552 => (some t552)) = some r := by rw [if_neg (show ¬ (false = true) by decide)] at H; exact H
        clear H
        have H := H1
        clear H1
        obtain ⟨t552, A41, H⟩ := sqO H
        try dsimp only at H
        obtain rfl := Option.some.inj H
        go_wp2_with (first | ((with_reducible refine gate_callee (f := 18) rfl ?_); refine goesL_ (some 84) rfl rfl Tryz.func18 (by kernel_rfl) rfl #[] rfl sqA ?_; (with_reducible refine (endonymlaw6_told.calls  t552 _ ⟨htab.out.below sqB⟩ A41.out).mono ?_); rintro e w42 ⟨rfl, hb⟩; refine ⟨_, rfl, ?_⟩; have n0_ := Aside0.mk (Kd.N_below (by (with_reducible repeat (first | apply Kd.N_alloc | apply Kd.N_drewN | apply Kd.N_drew)); exact HO_5.out) hb); have n1_ := Aside0.mk (Kd.N_below (by (with_reducible repeat (first | apply Kd.N_alloc | apply Kd.N_drewN | apply Kd.N_drew)); exact HO_8.out) hb); have n2_ := Aside0.mk (below_step sqB hb); clear HO_5; clear HO_8; clear HB; have HO_5 := n0_; have HO_8 := n1_; have HB := n2_; clear n0_ n1_ n2_; (try clear hb); (try clear hb2); (try clear hk); (try clear hi)))
        go_ret
        exact ⟨sqE', sqB⟩
       subst c16
       have H1 : (endonymlaw6_TableOnce.l2 kj13 l1 t542 x8_1 x10_2 1) = some r := by rw [if_pos rfl] at H; exact H
       clear H
       have H := H1
       clear H1
       have H' := Aside0.mk H
       clear H
       go_wp2
       go_loopg [11] kj13 (fun kq v11 w' => ∃ (x11_4 : Int), v11 = .int .i64 x11_4 ∧ Aside0 (endonymlaw6_TableOnce.l2 kq l1 t542 x8_1 x10_2 x11_4 = some r) ∧ Aside0 (kq ≤ kj13) ∧ Aside0 (Kd.N k25 25 w' w.heap.size (fun k_ => some k_ ≠ (u8 : Value).ownBlock) (.slice Ao7 t542.length co7) t542) ∧ Aside0 (Kd.N k25 25 w' w.heap.size (fun k_ => some k_ ≠ ((.slice Ao7 t542.length co7) : Value).ownBlock) u8 x8_1) ∧ Aside0 (Below w.heap.size w w'))
       case atStart => exact ⟨(1), sqE, H', ⟨Nat.le_refl _⟩, ⟨by (with_reducible repeat (first | apply Kd.N_alloc | apply Kd.N_drewN | apply Kd.N_drew)); exact HO_5.out⟩, ⟨by (with_reducible repeat (first | apply Kd.N_alloc | apply Kd.N_drewN | apply Kd.N_drew)); exact HO_8.out⟩, ⟨sqB⟩⟩
       case round =>
        clear H'
        try clear c1
        try clear c2
        try clear p2
        try clear c5
        try clear c5b0
        try clear c5b1
        try clear p5
        try clear q5
        try clear hx5
        try clear p6
        try clear c9
        try clear c9b0
        try clear c10
        try clear c10b0
        try clear c11
        try clear c11b0
        try clear c12
        try clear c14
        try clear c15
        try clear c15b0
        try clear c16
        try clear hx548_0
        try clear hx548_1
        try clear hx548_2
        try clear hx548_3
        try clear hx548_4
        try clear hx548_5
        try clear hx548_6
        try clear hx548_7
        try clear p2
        try clear p5
        try clear p548
        try clear p6
        try clear q5
        try clear q548
        obtain ⟨x11_4, rfl, HA, HK4, HO_5, HO_8, HB⟩ := hrel
        cases gk with
        | zero => exact absurd HA.out (by simp [endonymlaw6_TableOnce.l2])
        | succ k4 =>
         have H := HA.out
         clear HA
         simp only [endonymlaw6_TableOnce.l2] at H
         by_cases c17 : x11_4 ≤ 9
         case neg =>
          rw [if_neg c17] at H
          have c17b0 := decide_eq_false c17
          clear c17
          have H' := Aside0.mk H
          clear H
          go_wp2
          go_roundg k4
          case measure => have := HK1.out; have := HK2.out; have := HJ13.out; have := HK4.out; omega
          case rel => exact ⟨(wrap64 (x10_2 + 1)), sqE, H', ⟨by have := HK1.out; have := HK2.out; have := HJ13.out; have := HK4.out; omega⟩, ⟨by (with_reducible repeat (first | apply Kd.N_alloc | apply Kd.N_drewN | apply Kd.N_drew)); exact HO_5.out⟩, ⟨by (with_reducible repeat (first | apply Kd.N_alloc | apply Kd.N_drewN | apply Kd.N_drew)); exact HO_8.out⟩, ⟨sqB⟩⟩
         rw [if_pos c17] at H
         have c17b0 := decide_eq_true c17
         clear c17
         by_cases c18 : 0 ≤ x10_2
         case neg => rw [if_neg c18] at H; exact absurd H (by simp)
         rw [if_pos c18] at H
         have c18b0 := decide_eq_true c18
         clear c18
         by_cases c19 : x10_2 < (l1.length : Int)
         case neg => rw [if_neg c19] at H; exact absurd H (by simp)
         rw [if_pos c19] at H
         have c19b0 := decide_eq_true c19
         clear c19
         obtain ⟨t554, A20, H⟩ := sqO H
         try dsimp only at H
         obtain ⟨t556, A21, H⟩ := sqO H
         try dsimp only at H
         by_cases c22 : ((decide (t554 < 0)) != (decide (t556 < 0))) = true
         ·rw [if_pos c22] at H
          have c22b0 : ((decide (t554 < 0)) != (decide (t556 < 0))) = true := c22
          (try (have c22b1 : decide ((decide (t554 < 0)) = (decide (t556 < 0))) = false := by simpa using c22))
          (try (have c22b2 : ((decide (t554 < 0)) == (decide (t556 < 0))) = false := by simpa using c22))
          (try (have c22b3 : ¬ ((decide (t554 < 0)) = (decide (t556 < 0))) := by simpa using c22))
          clear c22
          obtain rfl := Option.some.inj H
          try go_wp2
          have n0_ := Aside0.mk (Kd.N_drew HO_5.out)
          have n1_ := Aside0.mk (Kd.N_drew HO_8.out)
          have n2_ := Aside0.mk (below_drew1 HB.out)
          clear HO_5
          clear HO_8
          clear HB
          have HO_5 := n0_
          have HO_8 := n1_
          have HB := n2_
          clear n0_ n1_ n2_
          have p553 : 0 ≤ (x10_2 : Int) := sqD
          have q553 : x10_2 < (l1.length : Int) := sqD
          obtain ⟨ad553, e553, hx553_0⟩ := Kd.at_int HR1.out x10_2 p553 q553
          have hw553_0 := hx553_0
          cases e553
          replace hx553_0 := (HB.out.cell (World.block_lt_of_cell? w _ hx553_0)).trans hx553_0
          replace p553 := eq_true p553
          replace q553 := eq_true q553
          have p555 : 0 ≤ (x10_2 : Int) := sqD
          have q555 : x10_2 < (l1.length : Int) := sqD
          obtain ⟨ad555, e555, hx555_0⟩ := Kd.at_int HR1.out x10_2 p555 q555
          have hw555_0 := hx555_0
          obtain rfl : ad553 = ad555 := (by injection e555)
          replace hx555_0 := (HB.out.cell (World.block_lt_of_cell? w _ hx555_0)).trans hx555_0
          replace p555 := eq_true p555
          replace q555 := eq_true q555
          refine start_ (n := 16) (S := fun w' => w'.cell? (ad553.add (x10_2).toNat) = some (.int .i32 (rd l1 x10_2)) ∧ w'.cell? (ad553.add (x10_2).toNat) = some (.int .i32 (rd l1 x10_2))) (ds := []) (bm 16 0) (by kernel_rfl) rfl rfl ⟨((HB.out.cell (World.block_lt_of_cell? w _ hw553_0)).trans hw553_0), ((HB.out.cell (World.block_lt_of_cell? w _ hw555_0)).trans hw555_0)⟩ (fun hHeld => ?_); refine with_tabW endonymlaw6_TableOnce.tab16 endonymlaw6_TableOnce.bits16 (fun HT_ HW_ => ?_)
          generalize wr.drew = w23 at HO_5 HO_8 HB hx553_0 hx555_0 hHeld ⊢
          refine sqP 0 (some 52) (bm 16 1) ?_
          refine sqP 1 (some 53) (bm 16 3) ?_
          refine sqP 2 (some 54) (bm 16 7) ?_
          refine sqP 3 (some 55) (bm 16 15) ?_
          refine sqP 4 (some 56) (bm 16 31) ?_
          refine sqP 7 (some 59) (bm 16 159) ?_
          refine sqP 8 (some 60) (bm 16 415) ?_
          refine sqP 9 (some 61) (bm 16 927) ?_
          refine sqP 10 (some 62) (bm 16 1951) ?_
          refine sqP 11 (some 63) (bm 16 3999) ?_
          refine sqT 5 (some 57) (bm 16 4031) ?_
          refine sqT 12 (some 64) (bm 16 8127) ?_
          refine sqI 6 (some 58) (bm 16 8191) (fun K hK => ?_)
          refine goes_ Tryz.func30 (by kernel_rfl) rfl #[.slice Ao7 t542.length co7, .int .i64 x11_4, .int .i32 (rd l1 x10_2)] (by rfl) rfl rfl sqA ?_
          with_reducible refine (table_Find.calls k4 _ _ t542 x11_4 (rd l1 x10_2) t554 _ ?side1 ?side2 A20.out).mono ?_
          (case side1 => repeat (first | exact (Kd.N_reads' HO_5.out).2.2 | (with_reducible refine Kd.C_alloc ?_ _) | (with_reducible refine Kd.C_drewN ?_ _) | (with_reducible refine Kd.C_drew ?_)))
          (case side2 => exact (Kd.N_reads' HO_5.out).2.1)
          rintro e w24 ⟨rfl, hb⟩
          refine ⟨_, rfl, ?_⟩
          have n0_ := Aside0.mk (Kd.N_below (by (with_reducible repeat (first | apply Kd.N_alloc | apply Kd.N_drewN | apply Kd.N_drew)); exact HO_5.out) hb)
          have n1_ := Aside0.mk (Kd.N_below (by (with_reducible repeat (first | apply Kd.N_alloc | apply Kd.N_drewN | apply Kd.N_drew)); exact HO_8.out) hb)
          have n2_ := Aside0.mk (below_step sqB hb)
          clear HO_5
          clear HO_8
          clear HB
          have HO_5 := n0_
          have HO_8 := n1_
          have HB := n2_
          clear n0_ n1_ n2_
          (try clear hb)
          (try clear hb2)
          (try clear hk)
          (try clear hi)
          obtain ⟨Ao25, co25, eo25⟩ := Kd.N_slice HO_8.out
          (first | subst eo25 | (injection eo25 with f1_ f2_ f3_; have f4_ := f1_.symm; have f5_ := f3_.symm; clear f1_ f2_ f3_; subst f4_; subst f5_))
          refine hK.out _ _ ⟨((HB.out.cell (World.block_lt_of_cell? w _ hw553_0)).trans hw553_0), ((HB.out.cell (World.block_lt_of_cell? w _ hw555_0)).trans hw555_0)⟩ (fun hHeld => ?_)
          clear hK K
          refine sqN 58 ?_
          refine sqI 13 (some 65) (bm 16 16383) (fun K hK => ?_)
          refine goes_ Tryz.func30 (by kernel_rfl) rfl #[.slice Ao25 x8_1.length co25, .int .i64 x11_4, .int .i32 (rd l1 x10_2)] (by rfl) rfl rfl sqA ?_
          with_reducible refine (table_Find.calls k4 _ _ x8_1 x11_4 (rd l1 x10_2) t556 _ ?side1 ?side2 A21.out).mono ?_
          (case side1 => repeat (first | exact (Kd.N_reads' HO_8.out).2.2 | (with_reducible refine Kd.C_alloc ?_ _) | (with_reducible refine Kd.C_drewN ?_ _) | (with_reducible refine Kd.C_drew ?_)))
          (case side2 => exact (Kd.N_reads' HO_8.out).2.1)
          rintro e w26 ⟨rfl, hb⟩
          refine ⟨_, rfl, ?_⟩
          have n0_ := Aside0.mk (Kd.N_below (by (with_reducible repeat (first | apply Kd.N_alloc | apply Kd.N_drewN | apply Kd.N_drew)); exact HO_5.out) hb)
          have n1_ := Aside0.mk (Kd.N_below (by (with_reducible repeat (first | apply Kd.N_alloc | apply Kd.N_drewN | apply Kd.N_drew)); exact HO_8.out) hb)
          have n2_ := Aside0.mk (below_step sqB hb)
          clear HO_5
          clear HO_8
          clear HB
          have HO_5 := n0_
          have HO_8 := n1_
          have HB := n2_
          clear n0_ n1_ n2_
          (try clear hb)
          (try clear hb2)
          (try clear hk)
          (try clear hi)
          refine hK.out _ _ ⟨((HB.out.cell (World.block_lt_of_cell? w _ hw553_0)).trans hw553_0), ((HB.out.cell (World.block_lt_of_cell? w _ hw555_0)).trans hw555_0)⟩ (fun hHeld => ?_)
          clear hK K
          refine sqN 65 ?_
          refine sqP 14 (some 12) (bm 16 32767) ?_
          refine sqP 15 (some 13) (bm 16 65535) ?_
          refine done_ (done_of HT_.out (by kernel_rfl)) ?_
          try go_wp2
          go_ret
          exact ⟨sqE', sqB⟩
         rw [if_neg c22] at H
         have c22b0 : ((decide (t554 < 0)) != (decide (t556 < 0))) = false := by simpa using c22
         (try (have c22b1 : decide ((decide (t554 < 0)) = (decide (t556 < 0))) = true := by simpa using c22))
         (try (have c22b2 : ((decide (t554 < 0)) == (decide (t556 < 0))) = true := by simpa using c22))
         clear c22
         by_cases c27 : t554 ≥ 0
         ·rw [if_pos c27] at H
          have c27b0 := decide_eq_true c27
          clear c27
          by_cases c28 : t554 = (wrap64 ((wrap64 ((t542.length : Int) - 1)) - t556))
          ·rw [if_pos c28] at H
           have c28b0 := beq_iff_eq.mpr c28
           have c28b1 := bne_eq_false_iff_eq.mpr c28
           clear c28
           have H' := Aside0.mk H
           clear H
           try go_wp2
           have n0_ := Aside0.mk (Kd.N_drew HO_5.out)
           have n1_ := Aside0.mk (Kd.N_drew HO_8.out)
           have n2_ := Aside0.mk (below_drew1 HB.out)
           clear HO_5
           clear HO_8
           clear HB
           have HO_5 := n0_
           have HO_8 := n1_
           have HB := n2_
           clear n0_ n1_ n2_
           have p553 : 0 ≤ (x10_2 : Int) := sqD
           have q553 : x10_2 < (l1.length : Int) := sqD
           obtain ⟨ad553, e553, hx553_0⟩ := Kd.at_int HR1.out x10_2 p553 q553
           have hw553_0 := hx553_0
           cases e553
           replace hx553_0 := (HB.out.cell (World.block_lt_of_cell? w _ hx553_0)).trans hx553_0
           replace p553 := eq_true p553
           replace q553 := eq_true q553
           have p555 : 0 ≤ (x10_2 : Int) := sqD
           have q555 : x10_2 < (l1.length : Int) := sqD
           obtain ⟨ad555, e555, hx555_0⟩ := Kd.at_int HR1.out x10_2 p555 q555
           have hw555_0 := hx555_0
           obtain rfl : ad553 = ad555 := (by injection e555)
           replace hx555_0 := (HB.out.cell (World.block_lt_of_cell? w _ hx555_0)).trans hx555_0
           replace p555 := eq_true p555
           replace q555 := eq_true q555
           refine start_ (n := 16) (S := fun w' => w'.cell? (ad553.add (x10_2).toNat) = some (.int .i32 (rd l1 x10_2)) ∧ w'.cell? (ad553.add (x10_2).toNat) = some (.int .i32 (rd l1 x10_2))) (ds := []) (bm 16 0) (by kernel_rfl) rfl rfl ⟨((HB.out.cell (World.block_lt_of_cell? w _ hw553_0)).trans hw553_0), ((HB.out.cell (World.block_lt_of_cell? w _ hw555_0)).trans hw555_0)⟩ (fun hHeld => ?_); refine with_tabW endonymlaw6_TableOnce.tab16 endonymlaw6_TableOnce.bits16 (fun HT_ HW_ => ?_)
           generalize wr.drew = w29 at HO_5 HO_8 HB hx553_0 hx555_0 hHeld ⊢
           refine sqP 0 (some 52) (bm 16 1) ?_
           refine sqP 1 (some 53) (bm 16 3) ?_
           refine sqP 2 (some 54) (bm 16 7) ?_
           refine sqP 3 (some 55) (bm 16 15) ?_
           refine sqP 4 (some 56) (bm 16 31) ?_
           refine sqP 7 (some 59) (bm 16 159) ?_
           refine sqP 8 (some 60) (bm 16 415) ?_
           refine sqP 9 (some 61) (bm 16 927) ?_
           refine sqP 10 (some 62) (bm 16 1951) ?_
           refine sqP 11 (some 63) (bm 16 3999) ?_
           refine sqT 5 (some 57) (bm 16 4031) ?_
           refine sqT 12 (some 64) (bm 16 8127) ?_
           refine sqI 6 (some 58) (bm 16 8191) (fun K hK => ?_)
           refine goes_ Tryz.func30 (by kernel_rfl) rfl #[.slice Ao7 t542.length co7, .int .i64 x11_4, .int .i32 (rd l1 x10_2)] (by rfl) rfl rfl sqA ?_
           with_reducible refine (table_Find.calls k4 _ _ t542 x11_4 (rd l1 x10_2) t554 _ ?side1 ?side2 A20.out).mono ?_
           (case side1 => repeat (first | exact (Kd.N_reads' HO_5.out).2.2 | (with_reducible refine Kd.C_alloc ?_ _) | (with_reducible refine Kd.C_drewN ?_ _) | (with_reducible refine Kd.C_drew ?_)))
           (case side2 => exact (Kd.N_reads' HO_5.out).2.1)
           rintro e w30 ⟨rfl, hb⟩
           refine ⟨_, rfl, ?_⟩
           have n0_ := Aside0.mk (Kd.N_below (by (with_reducible repeat (first | apply Kd.N_alloc | apply Kd.N_drewN | apply Kd.N_drew)); exact HO_5.out) hb)
           have n1_ := Aside0.mk (Kd.N_below (by (with_reducible repeat (first | apply Kd.N_alloc | apply Kd.N_drewN | apply Kd.N_drew)); exact HO_8.out) hb)
           have n2_ := Aside0.mk (below_step sqB hb)
           clear HO_5
           clear HO_8
           clear HB
           have HO_5 := n0_
           have HO_8 := n1_
           have HB := n2_
           clear n0_ n1_ n2_
           (try clear hb)
           (try clear hb2)
           (try clear hk)
           (try clear hi)
           obtain ⟨Ao31, co31, eo31⟩ := Kd.N_slice HO_8.out
           (first | subst eo31 | (injection eo31 with f1_ f2_ f3_; have f4_ := f1_.symm; have f5_ := f3_.symm; clear f1_ f2_ f3_; subst f4_; subst f5_))
           refine hK.out _ _ ⟨((HB.out.cell (World.block_lt_of_cell? w _ hw553_0)).trans hw553_0), ((HB.out.cell (World.block_lt_of_cell? w _ hw555_0)).trans hw555_0)⟩ (fun hHeld => ?_)
           clear hK K
           refine sqN 58 ?_
           refine sqI 13 (some 65) (bm 16 16383) (fun K hK => ?_)
           refine goes_ Tryz.func30 (by kernel_rfl) rfl #[.slice Ao31 x8_1.length co31, .int .i64 x11_4, .int .i32 (rd l1 x10_2)] (by rfl) rfl rfl sqA ?_
           with_reducible refine (table_Find.calls k4 _ _ x8_1 x11_4 (rd l1 x10_2) t556 _ ?side1 ?side2 A21.out).mono ?_
           (case side1 => repeat (first | exact (Kd.N_reads' HO_8.out).2.2 | (with_reducible refine Kd.C_alloc ?_ _) | (with_reducible refine Kd.C_drewN ?_ _) | (with_reducible refine Kd.C_drew ?_)))
           (case side2 => exact (Kd.N_reads' HO_8.out).2.1)
           rintro e w32 ⟨rfl, hb⟩
           refine ⟨_, rfl, ?_⟩
           have n0_ := Aside0.mk (Kd.N_below (by (with_reducible repeat (first | apply Kd.N_alloc | apply Kd.N_drewN | apply Kd.N_drew)); exact HO_5.out) hb)
           have n1_ := Aside0.mk (Kd.N_below (by (with_reducible repeat (first | apply Kd.N_alloc | apply Kd.N_drewN | apply Kd.N_drew)); exact HO_8.out) hb)
           have n2_ := Aside0.mk (below_step sqB hb)
           clear HO_5
           clear HO_8
           clear HB
           have HO_5 := n0_
           have HO_8 := n1_
           have HB := n2_
           clear n0_ n1_ n2_
           (try clear hb)
           (try clear hb2)
           (try clear hk)
           (try clear hi)
           refine hK.out _ _ ⟨((HB.out.cell (World.block_lt_of_cell? w _ hw553_0)).trans hw553_0), ((HB.out.cell (World.block_lt_of_cell? w _ hw555_0)).trans hw555_0)⟩ (fun hHeld => ?_)
           clear hK K
           refine sqN 65 ?_
           refine sqP 14 (some 12) (bm 16 32767) ?_
           refine sqP 15 (some 13) (bm 16 65535) ?_
           refine done_ (done_of HT_.out (by kernel_rfl)) ?_
           try go_wp2
           go_roundg k4
           case measure => have := HK1.out; have := HK2.out; have := HJ13.out; have := HK4.out; omega
           case rel => exact ⟨(wrap64 (x11_4 + 1)), sqE, H', ⟨by have := HK1.out; have := HK2.out; have := HJ13.out; have := HK4.out; omega⟩, ⟨by (with_reducible repeat (first | apply Kd.N_alloc | apply Kd.N_drewN | apply Kd.N_drew)); exact HO_5.out⟩, ⟨by (with_reducible repeat (first | apply Kd.N_alloc | apply Kd.N_drewN | apply Kd.N_drew)); exact HO_8.out⟩, ⟨sqB⟩⟩
          rw [if_neg c28] at H
          have c28b0 := beq_eq_false_iff_ne.mpr c28
          have c28b1 := bne_iff_ne.mpr c28
          obtain rfl := Option.some.inj H
          try go_wp2
          have n0_ := Aside0.mk (Kd.N_drew HO_5.out)
          have n1_ := Aside0.mk (Kd.N_drew HO_8.out)
          have n2_ := Aside0.mk (below_drew1 HB.out)
          clear HO_5
          clear HO_8
          clear HB
          have HO_5 := n0_
          have HO_8 := n1_
          have HB := n2_
          clear n0_ n1_ n2_
          have p553 : 0 ≤ (x10_2 : Int) := sqD
          have q553 : x10_2 < (l1.length : Int) := sqD
          obtain ⟨ad553, e553, hx553_0⟩ := Kd.at_int HR1.out x10_2 p553 q553
          have hw553_0 := hx553_0
          cases e553
          replace hx553_0 := (HB.out.cell (World.block_lt_of_cell? w _ hx553_0)).trans hx553_0
          replace p553 := eq_true p553
          replace q553 := eq_true q553
          have p555 : 0 ≤ (x10_2 : Int) := sqD
          have q555 : x10_2 < (l1.length : Int) := sqD
          obtain ⟨ad555, e555, hx555_0⟩ := Kd.at_int HR1.out x10_2 p555 q555
          have hw555_0 := hx555_0
          obtain rfl : ad553 = ad555 := (by injection e555)
          replace hx555_0 := (HB.out.cell (World.block_lt_of_cell? w _ hx555_0)).trans hx555_0
          replace p555 := eq_true p555
          replace q555 := eq_true q555
          refine start_ (n := 16) (S := fun w' => w'.cell? (ad553.add (x10_2).toNat) = some (.int .i32 (rd l1 x10_2)) ∧ w'.cell? (ad553.add (x10_2).toNat) = some (.int .i32 (rd l1 x10_2))) (ds := []) (bm 16 0) (by kernel_rfl) rfl rfl ⟨((HB.out.cell (World.block_lt_of_cell? w _ hw553_0)).trans hw553_0), ((HB.out.cell (World.block_lt_of_cell? w _ hw555_0)).trans hw555_0)⟩ (fun hHeld => ?_); refine with_tabW endonymlaw6_TableOnce.tab16 endonymlaw6_TableOnce.bits16 (fun HT_ HW_ => ?_)
          generalize wr.drew = w33 at HO_5 HO_8 HB hx553_0 hx555_0 hHeld ⊢
          refine sqP 0 (some 52) (bm 16 1) ?_
          refine sqP 1 (some 53) (bm 16 3) ?_
          refine sqP 2 (some 54) (bm 16 7) ?_
          refine sqP 3 (some 55) (bm 16 15) ?_
          refine sqP 4 (some 56) (bm 16 31) ?_
          refine sqP 7 (some 59) (bm 16 159) ?_
          refine sqP 8 (some 60) (bm 16 415) ?_
          refine sqP 9 (some 61) (bm 16 927) ?_
          refine sqP 10 (some 62) (bm 16 1951) ?_
          refine sqP 11 (some 63) (bm 16 3999) ?_
          refine sqT 5 (some 57) (bm 16 4031) ?_
          refine sqT 12 (some 64) (bm 16 8127) ?_
          refine sqI 6 (some 58) (bm 16 8191) (fun K hK => ?_)
          refine goes_ Tryz.func30 (by kernel_rfl) rfl #[.slice Ao7 t542.length co7, .int .i64 x11_4, .int .i32 (rd l1 x10_2)] (by rfl) rfl rfl sqA ?_
          with_reducible refine (table_Find.calls k4 _ _ t542 x11_4 (rd l1 x10_2) t554 _ ?side1 ?side2 A20.out).mono ?_
          (case side1 => repeat (first | exact (Kd.N_reads' HO_5.out).2.2 | (with_reducible refine Kd.C_alloc ?_ _) | (with_reducible refine Kd.C_drewN ?_ _) | (with_reducible refine Kd.C_drew ?_)))
          (case side2 => exact (Kd.N_reads' HO_5.out).2.1)
          rintro e w34 ⟨rfl, hb⟩
          refine ⟨_, rfl, ?_⟩
          have n0_ := Aside0.mk (Kd.N_below (by (with_reducible repeat (first | apply Kd.N_alloc | apply Kd.N_drewN | apply Kd.N_drew)); exact HO_5.out) hb)
          have n1_ := Aside0.mk (Kd.N_below (by (with_reducible repeat (first | apply Kd.N_alloc | apply Kd.N_drewN | apply Kd.N_drew)); exact HO_8.out) hb)
          have n2_ := Aside0.mk (below_step sqB hb)
          clear HO_5
          clear HO_8
          clear HB
          have HO_5 := n0_
          have HO_8 := n1_
          have HB := n2_
          clear n0_ n1_ n2_
          (try clear hb)
          (try clear hb2)
          (try clear hk)
          (try clear hi)
          obtain ⟨Ao35, co35, eo35⟩ := Kd.N_slice HO_8.out
          (first | subst eo35 | (injection eo35 with f1_ f2_ f3_; have f4_ := f1_.symm; have f5_ := f3_.symm; clear f1_ f2_ f3_; subst f4_; subst f5_))
          refine hK.out _ _ ⟨((HB.out.cell (World.block_lt_of_cell? w _ hw553_0)).trans hw553_0), ((HB.out.cell (World.block_lt_of_cell? w _ hw555_0)).trans hw555_0)⟩ (fun hHeld => ?_)
          clear hK K
          refine sqN 58 ?_
          refine sqI 13 (some 65) (bm 16 16383) (fun K hK => ?_)
          refine goes_ Tryz.func30 (by kernel_rfl) rfl #[.slice Ao35 x8_1.length co35, .int .i64 x11_4, .int .i32 (rd l1 x10_2)] (by rfl) rfl rfl sqA ?_
          with_reducible refine (table_Find.calls k4 _ _ x8_1 x11_4 (rd l1 x10_2) t556 _ ?side1 ?side2 A21.out).mono ?_
          (case side1 => repeat (first | exact (Kd.N_reads' HO_8.out).2.2 | (with_reducible refine Kd.C_alloc ?_ _) | (with_reducible refine Kd.C_drewN ?_ _) | (with_reducible refine Kd.C_drew ?_)))
          (case side2 => exact (Kd.N_reads' HO_8.out).2.1)
          rintro e w36 ⟨rfl, hb⟩
          refine ⟨_, rfl, ?_⟩
          have n0_ := Aside0.mk (Kd.N_below (by (with_reducible repeat (first | apply Kd.N_alloc | apply Kd.N_drewN | apply Kd.N_drew)); exact HO_5.out) hb)
          have n1_ := Aside0.mk (Kd.N_below (by (with_reducible repeat (first | apply Kd.N_alloc | apply Kd.N_drewN | apply Kd.N_drew)); exact HO_8.out) hb)
          have n2_ := Aside0.mk (below_step sqB hb)
          clear HO_5
          clear HO_8
          clear HB
          have HO_5 := n0_
          have HO_8 := n1_
          have HB := n2_
          clear n0_ n1_ n2_
          (try clear hb)
          (try clear hb2)
          (try clear hk)
          (try clear hi)
          refine hK.out _ _ ⟨((HB.out.cell (World.block_lt_of_cell? w _ hw553_0)).trans hw553_0), ((HB.out.cell (World.block_lt_of_cell? w _ hw555_0)).trans hw555_0)⟩ (fun hHeld => ?_)
          clear hK K
          refine sqN 65 ?_
          refine sqP 14 (some 12) (bm 16 32767) ?_
          refine sqP 15 (some 13) (bm 16 65535) ?_
          refine done_ (done_of HT_.out (by kernel_rfl)) ?_
          try go_wp2
          go_ret
          exact ⟨sqE', sqB⟩
         rw [if_neg c27] at H
         have c27b0 := decide_eq_false c27
         clear c27
         have H' := Aside0.mk H
         clear H
         try go_wp2
         have n0_ := Aside0.mk (Kd.N_drew HO_5.out)
         have n1_ := Aside0.mk (Kd.N_drew HO_8.out)
         have n2_ := Aside0.mk (below_drew1 HB.out)
         clear HO_5
         clear HO_8
         clear HB
         have HO_5 := n0_
         have HO_8 := n1_
         have HB := n2_
         clear n0_ n1_ n2_
         have p553 : 0 ≤ (x10_2 : Int) := sqD
         have q553 : x10_2 < (l1.length : Int) := sqD
         obtain ⟨ad553, e553, hx553_0⟩ := Kd.at_int HR1.out x10_2 p553 q553
         have hw553_0 := hx553_0
         cases e553
         replace hx553_0 := (HB.out.cell (World.block_lt_of_cell? w _ hx553_0)).trans hx553_0
         replace p553 := eq_true p553
         replace q553 := eq_true q553
         have p555 : 0 ≤ (x10_2 : Int) := sqD
         have q555 : x10_2 < (l1.length : Int) := sqD
         obtain ⟨ad555, e555, hx555_0⟩ := Kd.at_int HR1.out x10_2 p555 q555
         have hw555_0 := hx555_0
         obtain rfl : ad553 = ad555 := (by injection e555)
         replace hx555_0 := (HB.out.cell (World.block_lt_of_cell? w _ hx555_0)).trans hx555_0
         replace p555 := eq_true p555
         replace q555 := eq_true q555
         refine start_ (n := 16) (S := fun w' => w'.cell? (ad553.add (x10_2).toNat) = some (.int .i32 (rd l1 x10_2)) ∧ w'.cell? (ad553.add (x10_2).toNat) = some (.int .i32 (rd l1 x10_2))) (ds := []) (bm 16 0) (by kernel_rfl) rfl rfl ⟨((HB.out.cell (World.block_lt_of_cell? w _ hw553_0)).trans hw553_0), ((HB.out.cell (World.block_lt_of_cell? w _ hw555_0)).trans hw555_0)⟩ (fun hHeld => ?_); refine with_tabW endonymlaw6_TableOnce.tab16 endonymlaw6_TableOnce.bits16 (fun HT_ HW_ => ?_)
         generalize wr.drew = w37 at HO_5 HO_8 HB hx553_0 hx555_0 hHeld ⊢
         refine sqP 0 (some 52) (bm 16 1) ?_
         refine sqP 1 (some 53) (bm 16 3) ?_
         refine sqP 2 (some 54) (bm 16 7) ?_
         refine sqP 3 (some 55) (bm 16 15) ?_
         refine sqP 4 (some 56) (bm 16 31) ?_
         refine sqP 7 (some 59) (bm 16 159) ?_
         refine sqP 8 (some 60) (bm 16 415) ?_
         refine sqP 9 (some 61) (bm 16 927) ?_
         refine sqP 10 (some 62) (bm 16 1951) ?_
         refine sqP 11 (some 63) (bm 16 3999) ?_
         refine sqT 5 (some 57) (bm 16 4031) ?_
         refine sqT 12 (some 64) (bm 16 8127) ?_
         refine sqI 6 (some 58) (bm 16 8191) (fun K hK => ?_)
         refine goes_ Tryz.func30 (by kernel_rfl) rfl #[.slice Ao7 t542.length co7, .int .i64 x11_4, .int .i32 (rd l1 x10_2)] (by rfl) rfl rfl sqA ?_
         with_reducible refine (table_Find.calls k4 _ _ t542 x11_4 (rd l1 x10_2) t554 _ ?side1 ?side2 A20.out).mono ?_
         (case side1 => repeat (first | exact (Kd.N_reads' HO_5.out).2.2 | (with_reducible refine Kd.C_alloc ?_ _) | (with_reducible refine Kd.C_drewN ?_ _) | (with_reducible refine Kd.C_drew ?_)))
         (case side2 => exact (Kd.N_reads' HO_5.out).2.1)
         rintro e w38 ⟨rfl, hb⟩
         refine ⟨_, rfl, ?_⟩
         have n0_ := Aside0.mk (Kd.N_below (by (with_reducible repeat (first | apply Kd.N_alloc | apply Kd.N_drewN | apply Kd.N_drew)); exact HO_5.out) hb)
         have n1_ := Aside0.mk (Kd.N_below (by (with_reducible repeat (first | apply Kd.N_alloc | apply Kd.N_drewN | apply Kd.N_drew)); exact HO_8.out) hb)
         have n2_ := Aside0.mk (below_step sqB hb)
         clear HO_5
         clear HO_8
         clear HB
         have HO_5 := n0_
         have HO_8 := n1_
         have HB := n2_
         clear n0_ n1_ n2_
         (try clear hb)
         (try clear hb2)
         (try clear hk)
         (try clear hi)
         obtain ⟨Ao39, co39, eo39⟩ := Kd.N_slice HO_8.out
         (first | subst eo39 | (injection eo39 with f1_ f2_ f3_; have f4_ := f1_.symm; have f5_ := f3_.symm; clear f1_ f2_ f3_; subst f4_; subst f5_))
         refine hK.out _ _ ⟨((HB.out.cell (World.block_lt_of_cell? w _ hw553_0)).trans hw553_0), ((HB.out.cell (World.block_lt_of_cell? w _ hw555_0)).trans hw555_0)⟩ (fun hHeld => ?_)
         clear hK K
         refine sqN 58 ?_
         refine sqI 13 (some 65) (bm 16 16383) (fun K hK => ?_)
         refine goes_ Tryz.func30 (by kernel_rfl) rfl #[.slice Ao39 x8_1.length co39, .int .i64 x11_4, .int .i32 (rd l1 x10_2)] (by rfl) rfl rfl sqA ?_
         with_reducible refine (table_Find.calls k4 _ _ x8_1 x11_4 (rd l1 x10_2) t556 _ ?side1 ?side2 A21.out).mono ?_
         (case side1 => repeat (first | exact (Kd.N_reads' HO_8.out).2.2 | (with_reducible refine Kd.C_alloc ?_ _) | (with_reducible refine Kd.C_drewN ?_ _) | (with_reducible refine Kd.C_drew ?_)))
         (case side2 => exact (Kd.N_reads' HO_8.out).2.1)
         rintro e w40 ⟨rfl, hb⟩
         refine ⟨_, rfl, ?_⟩
         have n0_ := Aside0.mk (Kd.N_below (by (with_reducible repeat (first | apply Kd.N_alloc | apply Kd.N_drewN | apply Kd.N_drew)); exact HO_5.out) hb)
         have n1_ := Aside0.mk (Kd.N_below (by (with_reducible repeat (first | apply Kd.N_alloc | apply Kd.N_drewN | apply Kd.N_drew)); exact HO_8.out) hb)
         have n2_ := Aside0.mk (below_step sqB hb)
         clear HO_5
         clear HO_8
         clear HB
         have HO_5 := n0_
         have HO_8 := n1_
         have HB := n2_
         clear n0_ n1_ n2_
         (try clear hb)
         (try clear hb2)
         (try clear hk)
         (try clear hi)
         refine hK.out _ _ ⟨((HB.out.cell (World.block_lt_of_cell? w _ hw553_0)).trans hw553_0), ((HB.out.cell (World.block_lt_of_cell? w _ hw555_0)).trans hw555_0)⟩ (fun hHeld => ?_)
         clear hK K
         refine sqN 65 ?_
         refine sqP 14 (some 12) (bm 16 32767) ?_
         refine sqP 15 (some 13) (bm 16 65535) ?_
         refine done_ (done_of HT_.out (by kernel_rfl)) ?_
         try go_wp2
         go_roundg k4
         case measure => have := HK1.out; have := HK2.out; have := HJ13.out; have := HK4.out; omega
         case rel => exact ⟨(wrap64 (x11_4 + 1)), sqE, H', ⟨by have := HK1.out; have := HK2.out; have := HJ13.out; have := HK4.out; omega⟩, ⟨by (with_reducible repeat (first | apply Kd.N_alloc | apply Kd.N_drewN | apply Kd.N_drew)); exact HO_5.out⟩, ⟨by (with_reducible repeat (first | apply Kd.N_alloc | apply Kd.N_drewN | apply Kd.N_drew)); exact HO_8.out⟩, ⟨sqB⟩⟩
end Go.Proofs.YtnoppeocbfapdaaGreatDoor.T
