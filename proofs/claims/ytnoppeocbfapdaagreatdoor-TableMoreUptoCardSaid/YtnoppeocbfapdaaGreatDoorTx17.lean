import Derived.Test.YtnoppeocbfapdaaGreatDoorTx0
import Derived.Test.YtnoppeocbfapdaaGreatDoorTx1
import Derived.Test.YtnoppeocbfapdaaGreatDoorTx7
import Derived.Test.YtnoppeocbfapdaaGreatDoorTx16
namespace Go.Proofs.YtnoppeocbfapdaaGreatDoor.T
open Go.RowKit Go.Proofs.YtnoppeocbfapdaaGreatDoorW.PrintWords Go.Proofs.YtnoppeocbfapdaaGreatDoorW.PrintLast Go.Proofs.YtnoppeocbfapdaaGreatDoorW.PrintMore
set_option maxHeartbeats 8000000
set_option maxRecDepth 100000
attribute [local go_sem] max2_int min2_int max_two min_two max_three min_three max_four min_four
set_option linter.unusedVariables false
set_option linter.unusedSimpArgs false
mutual
noncomputable def endonymlaw6_TableMore.j0 : Nat → List Int → List (S25) → List (S25) → Int → Int → Bool → Option (Bool)
 | 0, _, _, _, _, _, _ => none
 | k + 1, x2, x7, x8, x10, x12, x40 => if x40 = true then ((endonymlaw6_told.f).bind fun t562 => (if t562 = true then (if x10 = 0 then (some true) else (some (x12 != 0))) else (some false))) else (endonymlaw6_TableMore.l0 k x2 x7 x8 0)
noncomputable def endonymlaw6_TableMore.l0 : Nat → List Int → List (S25) → List (S25) → Int → Option (Bool)
 | 0, _, _, _, _ => none
 | k + 1, x2, x7, x8, x13 => if x13 < (x2.length : Int) then (endonymlaw6_TableMore.j2 k x2 x7 x8 x13 (decide (x13 < 40))) else (endonymlaw6_TableMore.j2 k x2 x7 x8 x13 false)
noncomputable def endonymlaw6_TableMore.j2 : Nat → List Int → List (S25) → List (S25) → Int → Bool → Option (Bool)
 | 0, _, _, _, _, _ => none
 | k + 1, x2, x7, x8, x13, x57 => if x57 = true then (endonymlaw6_TableMore.l1 k x2 x7 x8 x13 1) else ((endonymlaw6_told.f).bind fun t563 => (some t563))
noncomputable def endonymlaw6_TableMore.l1 : Nat → List Int → List (S25) → List (S25) → Int → Int → Option (Bool)
 | 0, _, _, _, _, _ => none
 | k + 1, x2, x7, x8, x13, x14 => if x14 ≤ 9 then (if 0 ≤ x13 then (if x13 < (x2.length : Int) then ((table_Find.f k x7 x14 (rd x2 x13)).bind fun t565 => ((table_Find.f k x8 x14 (rd x2 x13)).bind fun t567 => (if t565 ≥ 0 then (if t567 = t565 then (if t565 < 0 then (if t567 ≥ 0 then (if t567 = (x7.length : Int) then (endonymlaw6_TableMore.l1 k x2 x7 x8 x13 (wrap64 (x14 + 1))) else (some false)) else (endonymlaw6_TableMore.l1 k x2 x7 x8 x13 (wrap64 (x14 + 1)))) else (endonymlaw6_TableMore.l1 k x2 x7 x8 x13 (wrap64 (x14 + 1)))) else (some false)) else (if t565 < 0 then (if t567 ≥ 0 then (if t567 = (x7.length : Int) then (endonymlaw6_TableMore.l1 k x2 x7 x8 x13 (wrap64 (x14 + 1))) else (some false)) else (endonymlaw6_TableMore.l1 k x2 x7 x8 x13 (wrap64 (x14 + 1)))) else (endonymlaw6_TableMore.l1 k x2 x7 x8 x13 (wrap64 (x14 + 1))))))) else (none)) else (none)) else (endonymlaw6_TableMore.l0 k x2 x7 x8 (wrap64 (x13 + 1)))
end
noncomputable def endonymlaw6_TableMore.f (k : Nat) (l0 : List (S25)) (a1_0 : Int) (a1_1 : Int) (a1_2 : Int) (a1_3 : Int) (l1_4 : List Int) (a1_5 : ByteArray) (a1_6 : ByteArray) (a1_7 : Nat) (l2 : List Int) : Option (Bool) := (endonymlaw6_few.f k l0 60).bind fun t543 => ((endonymref6_Copied.f k t543).bind fun t546 => ((endonymlaw6_few.f k (([(⟨a1_0, a1_1, a1_2, a1_3, l1_4, a1_5, a1_6, a1_7⟩ : S25)] : List (S25))) 1).bind fun t552 => (if t546.length + t552.length < 1466015503701 then ((some (t546 ++ t552 : List (S25))).bind fun y555 => ((table_Check.f k t543).bind fun bt558 => ((table_Check.f k y555).bind fun bt560 => (if bt558.2 = 0 then (endonymlaw6_TableMore.j0 k l2 t543 y555 bt558.2 bt560.2 (bt560.2 != 0)) else (endonymlaw6_TableMore.j0 k l2 t543 y555 bt558.2 bt560.2 true))))) else (none))))
theorem endonymlaw6_TableMore.mono_l : ∀ k, (∀ y0 y1 y2 y3 y4 y5, LeO (endonymlaw6_TableMore.j0 k y0 y1 y2 y3 y4 y5) (endonymlaw6_TableMore.j0 (k + 1) y0 y1 y2 y3 y4 y5)) ∧ (∀ y0 y1 y2 y3, LeO (endonymlaw6_TableMore.l0 k y0 y1 y2 y3) (endonymlaw6_TableMore.l0 (k + 1) y0 y1 y2 y3)) ∧ (∀ y0 y1 y2 y3 y4, LeO (endonymlaw6_TableMore.j2 k y0 y1 y2 y3 y4) (endonymlaw6_TableMore.j2 (k + 1) y0 y1 y2 y3 y4)) ∧ (∀ y0 y1 y2 y3 y4, LeO (endonymlaw6_TableMore.l1 k y0 y1 y2 y3 y4) (endonymlaw6_TableMore.l1 (k + 1) y0 y1 y2 y3 y4))
 | 0 => ⟨fun _ _ _ _ _ _ r h => by simp [endonymlaw6_TableMore.j0] at h, fun _ _ _ _ r h => by simp [endonymlaw6_TableMore.l0] at h, fun _ _ _ _ _ r h => by simp [endonymlaw6_TableMore.j2] at h, fun _ _ _ _ _ r h => by simp [endonymlaw6_TableMore.l1] at h⟩
 | k + 1 => by
  obtain ⟨ih0, ih1, ih2, ih3⟩ := endonymlaw6_TableMore.mono_l k
  refine ⟨?_, ?_, ?_, ?_⟩
  ·intro y0 y1 y2 y3 y4 y5
   unfold endonymlaw6_TableMore.j0
   repeat' first | (with_reducible first | apply ih0 | apply ih1 | apply ih2 | apply ih3 | apply endonymlaw6_few.mono | apply endonymref6_Copied.mono | apply table_Check.mono | apply table_Find.mono | apply LeO.refl | apply LeO.none | refine LeO.ite ?_ ?_ | refine LeO.bind ?_ (fun _ => ?_)) | apply LeO.none | refine LeO.ite ?_ ?_ | refine LeO.bind ?_ (fun _ => ?_)
  ·intro y0 y1 y2 y3
   unfold endonymlaw6_TableMore.l0
   repeat' first | (with_reducible first | apply ih0 | apply ih1 | apply ih2 | apply ih3 | apply endonymlaw6_few.mono | apply endonymref6_Copied.mono | apply table_Check.mono | apply table_Find.mono | apply LeO.refl | apply LeO.none | refine LeO.ite ?_ ?_ | refine LeO.bind ?_ (fun _ => ?_)) | apply LeO.none | refine LeO.ite ?_ ?_ | refine LeO.bind ?_ (fun _ => ?_)
  ·intro y0 y1 y2 y3 y4
   unfold endonymlaw6_TableMore.j2
   repeat' first | (with_reducible first | apply ih0 | apply ih1 | apply ih2 | apply ih3 | apply endonymlaw6_few.mono | apply endonymref6_Copied.mono | apply table_Check.mono | apply table_Find.mono | apply LeO.refl | apply LeO.none | refine LeO.ite ?_ ?_ | refine LeO.bind ?_ (fun _ => ?_)) | apply LeO.none | refine LeO.ite ?_ ?_ | refine LeO.bind ?_ (fun _ => ?_)
  intro y0 y1 y2 y3 y4
  unfold endonymlaw6_TableMore.l1
  repeat' first | (with_reducible first | apply ih0 | apply ih1 | apply ih2 | apply ih3 | apply endonymlaw6_few.mono | apply endonymref6_Copied.mono | apply table_Check.mono | apply table_Find.mono | apply LeO.refl | apply LeO.none | refine LeO.ite ?_ ?_ | refine LeO.bind ?_ (fun _ => ?_)) | apply LeO.none | refine LeO.ite ?_ ?_ | refine LeO.bind ?_ (fun _ => ?_)
theorem endonymlaw6_TableMore.mono : ∀ a0 a1 a2 a3 a4 a5 a6 a7 a8 a9 k, LeO (endonymlaw6_TableMore.f k a0 a1 a2 a3 a4 a5 a6 a7 a8 a9) (endonymlaw6_TableMore.f (k + 1) a0 a1 a2 a3 a4 a5 a6 a7 a8 a9) := by
 intro a0 a1 a2 a3 a4 a5 a6 a7 a8 a9 k
 obtain ⟨ih0, ih1, ih2, ih3⟩ := endonymlaw6_TableMore.mono_l k
 unfold endonymlaw6_TableMore.f
 repeat' first | (with_reducible first | apply ih0 | apply ih1 | apply ih2 | apply ih3 | apply endonymlaw6_few.mono | apply endonymref6_Copied.mono | apply table_Check.mono | apply table_Find.mono | apply LeO.refl | apply LeO.none | refine LeO.ite ?_ ?_ | refine LeO.bind ?_ (fun _ => ?_)) | apply LeO.none | refine LeO.ite ?_ ?_ | refine LeO.bind ?_ (fun _ => ?_)
noncomputable def endonymlaw6_TableMore.T13 : Bool × List (List Nat × List Nat) := (true, [([], []), ([], []), ([], []), ([], []), ([2, 3], [2, 3]), ([4], [4]), ([0, 1, 5], [0, 1, 5]), ([], []), ([], []), ([], []), ([], []), ([9, 10], [9, 10]), ([11], [11]), ([7, 8, 12, 6], [7, 8, 12]), ([6, 13, 0, 1, 2, 3, 4, 5, 6], [6]), ([13, 14, 0, 1, 2, 3, 4, 5, 6, 7, 8, 9, 10, 11, 12, 13, 14], [13])])
noncomputable def endonymlaw6_TableMore.B13 : List Nat := [0, 0, 0, 0, 12, 28, 63, 0, 0, 0, 0, 1536, 3584, 8191, 16383, 32767]
theorem endonymlaw6_TableMore.tab13 : rtab .any (opsOf Tryz.f12 13) = endonymlaw6_TableMore.T13 := by kernel_rfl
theorem endonymlaw6_TableMore.bits13 : waitsOk endonymlaw6_TableMore.T13.2 endonymlaw6_TableMore.B13 = true := by kernel_rfl
theorem endonymlaw6_TableMore.calls (k : Nat) (A0 : Option Addr) (c0 : Nat) (l0 : List (S25)) (a1_0 : Int) (a1_1 : Int) (a1_2 : Int) (a1_3 : Int) (P1_4_ : Nat → Prop) (A1_4 : Option Addr) (c1_4 : Nat) (l1_4 : List Int) (a1_5 : ByteArray) (a1_6 : ByteArray) (a1_7 : Nat) (A2 : Option Addr) (c2 : Nat) (l2 : List Int) (r : Bool) (w : World) (htab : Aside0 (Rm.Tab w)) (hr0 : Kd.C k25 w A0 l0.length l0) (hc0 : l0.length ≤ c0) (hs1_4 : Kd.V (Kd.int .i32) 21 w w.heap.size (fun k_ => P1_4_ k_) (.slice A1_4 l1_4.length c1_4) l1_4) (hr2 : Kd.C (Kd.int .i32) w A2 l2.length l2) (hc2 : l2.length ≤ c2) (h : endonymlaw6_TableMore.f k l0 a1_0 a1_1 a1_2 a1_3 l1_4 a1_5 a1_6 a1_7 l2 = some r) :
  Calls Tryz.prog 12 #[.slice A0 l0.length c0, .agg #[.int .i64 a1_0, .int .i64 a1_1, .int .i64 a1_2, .int .i64 a1_3, .slice A1_4 l1_4.length c1_4, .string a1_5, .string a1_6, .float .f64 a1_7], .slice A2 l2.length c2] w fun e w' => e = .returned (.bool r) ∧ Below w.heap.size w w' := by
 have hu25 := Tryz.underlying25
 have HR0 := Aside0.mk hr0
 have HC0 := Aside0.mk hc0
 clear hr0 hc0
 have HO1_4 := Aside0.mk (show Kd.V (Kd.int .i32) 21 w w.heap.size (fun k_ => (P1_4_ k_ ∨ w.heap.size ≤ k_)) (.slice A1_4 l1_4.length c1_4) l1_4 from Kd.V_mono hs1_4 (fun k_ hk => .inl hk))
 have HR2 := Aside0.mk hr2
 have HC2 := Aside0.mk hc2
 clear hr2 hc2
 have HB := Aside0.mk (Below.refl w.heap.size w)
 have H : ((endonymlaw6_few.f k l0 60).bind fun t543 => ((endonymref6_Copied.f k t543).bind fun t546 => ((endonymlaw6_few.f k (([(⟨a1_0, a1_1, a1_2, a1_3, l1_4, a1_5, a1_6, a1_7⟩ : S25)] : List (S25))) 1).bind fun t552 => (if t546.length + t552.length < 1466015503701 then ((some (t546 ++ t552 : List (S25))).bind fun y555 => ((table_Check.f k t543).bind fun bt558 => ((table_Check.f k y555).bind fun bt560 => (if bt558.2 = 0 then (endonymlaw6_TableMore.j0 k l2 t543 y555 bt558.2 bt560.2 (bt560.2 != 0)) else (endonymlaw6_TableMore.j0 k l2 t543 y555 bt558.2 bt560.2 true))))) else (none))))) = some r := h
 clear h
 obtain ⟨t543, A4, H⟩ := sqO H
 try dsimp only at H
 obtain ⟨t546, A5, H⟩ := sqO H
 try dsimp only at H
 obtain ⟨y549, hy549⟩ : ∃ y_ : List (S25), y_ = (([(⟨a1_0, a1_1, a1_2, a1_3, l1_4, a1_5, a1_6, a1_7⟩ : S25)] : List (S25))) := ⟨_, rfl⟩
 replace H : ((endonymlaw6_few.f k y549 1).bind fun t552 => (if t546.length + t552.length < 1466015503701 then ((some (t546 ++ t552 : List (S25))).bind fun y555 => ((table_Check.f k t543).bind fun bt558 => ((table_Check.f k y555).bind fun bt560 => (if bt558.2 = 0 then (endonymlaw6_TableMore.j0 k l2 t543 y555 bt558.2 bt560.2 (bt560.2 != 0)) else (endonymlaw6_TableMore.j0 k l2 t543 y555 bt558.2 bt560.2 true))))) else (none))) = some r := by first | (rw [hy549]; with_reducible exact H) | (have H2_ := (Option.bind_some _ _).symm.trans H; rw [hy549]; with_reducible exact H2_) | (have H2_ := (Option.bind_some _ _).symm.trans H; with_reducible exact H2_) | with_reducible exact H | (rw [hy549]; exact H) | exact H
 have Ny549 := Aside0.mk hy549
 clear hy549
 obtain ⟨t552, A6, H⟩ := sqO H
 try dsimp only at H
 by_cases c7 : t546.length + t552.length < 1466015503701
 case neg => rw [if_neg c7] at H; exact absurd H (by simp)
 rw [if_pos c7] at H
 have LMc7 := Aside0.mk c7
 clear c7
 obtain ⟨y555, hy555⟩ : ∃ y_ : List (S25), y_ = (t546 ++ t552) := ⟨_, rfl⟩
 replace H : ((table_Check.f k t543).bind fun bt558 => ((table_Check.f k y555).bind fun bt560 => (if bt558.2 = 0 then (endonymlaw6_TableMore.j0 k l2 t543 y555 bt558.2 bt560.2 (bt560.2 != 0)) else (endonymlaw6_TableMore.j0 k l2 t543 y555 bt558.2 bt560.2 true)))) = some r := by first | (rw [hy555]; with_reducible exact H) | (have H2_ := (Option.bind_some _ _).symm.trans H; rw [hy555]; with_reducible exact H2_) | (have H2_ := (Option.bind_some _ _).symm.trans H; with_reducible exact H2_) | with_reducible exact H | (rw [hy555]; exact H) | exact H
 have Ny555 := Aside0.mk hy555
 clear hy555
 obtain ⟨⟨t558, t559⟩, A8, H⟩ := sqO H
 try dsimp only at H
 obtain ⟨⟨t560, t561⟩, A9, H⟩ := sqO H
 try dsimp only at H
 have HC10 := Aside0.mk H
 clear H
 go_enter Tryz.func12, Tryz.ntmps12
 try go_wp2_with (first | ((with_reducible refine gate_dst (N := 4) rfl ?_); (try (refine gate_guard (by rfl) ?_; dsimp only)); refine box_event ?hg (N := 4) ?hd (cs := #[.int .i64 a1_0, .int .i64 a1_1, .int .i64 a1_2, .int .i64 a1_3, .slice A1_4 l1_4.length c1_4, .string a1_5, .string a1_6, .float .f64 a1_7]) (t := 25) ?hr ?_; (case hd => rfl); (case hg => rfl); (case hr => first | (go_simp; done) | (go_simp; rfl)); intro gb542 hg w11 hbox hb; have n0_ := Aside0.mk (Kd.V_below (Kd.V_elderB (sqV HO1_4.out) gb542 (Nat.le_of_eq hg.symm)) hb); have n1_ := Aside0.mk (below_step sqB hb); have n2_ := Aside0.mk (hbox); have n3_ := Aside0.mk ((by rw [hg]; exact (below_size sqB) : w.heap.size ≤ gb542)); have n4_ := Aside0.mk ((by rw [hg]; exact (below_size sqB) : w.heap.size ≤ gb542)); clear HO1_4; clear HB; have HO1_4 := n0_; have HB := n1_; have BK542 := n2_; have GW542 := n3_; have GE542 := n4_; clear n0_ n1_ n2_ n3_ n4_; clear hb hbox hg) | ((with_reducible refine gate_callee (f := 14) rfl ?_); refine goesL_ (some 18) rfl rfl Tryz.func14 (by kernel_rfl) rfl #[.slice A0 l0.length c0, .int .i64 60] rfl sqA ?_; (with_reducible refine (endonymlaw6_few.calls k _ _ l0 60 t543 _ ?side1 ?side2 A4.out).mono ?_); (case side1 => repeat (first | exact (Kd.C_below HR0.out HB.out) | (with_reducible refine Kd.C_alloc ?_ _) | (with_reducible refine Kd.C_drewN ?_ _) | (with_reducible refine Kd.C_drew ?_))); (case side2 => exact HC0.out); rintro e w12 ⟨v544, rfl, ⟨ho0, _⟩, hb⟩; refine ⟨_, rfl, ?_⟩; have n0_ := Aside0.mk (Kd.V_elder' (sqV HO1_4.out) (Kd.S_base ho0) hb); have n1_ := Aside0.mk (Kd.N_lower (Kd.N_mono (ok' := fun k_ => (P1_4_ k_ ∨ w.heap.size ≤ k_) ∧ k_ ≠ gb542) (Kd.S_N (Kd.S_bound ho0)) (fun k_ hk_ => ⟨(.inr (Nat.le_trans (below_size (by repeat (first | (with_reducible first | exact HB.out | apply below_alloc | apply pw_below_drewN | apply below_drew1 | refine below_set ?_ GE542.out) | exact HB.out))) hk_.2.1)), (Kd.freshB (g := gb542) (o := .cells #[.int .i64 a1_0, .int .i64 a1_1, .int .i64 a1_2, .int .i64 a1_3, .slice A1_4 l1_4.length c1_4, .string a1_5, .string a1_6, .float .f64 a1_7] 25 (0, 0)) (by (with_reducible repeat (first | refine blk_drewN ?_ _ | refine blk_drew ?_ | refine blk_alloc ?_ _)); exact BK542.out) k_ hk_.2.1)⟩)) (below_size (by repeat (first | (with_reducible first | exact HB.out | apply below_alloc | apply pw_below_drewN | apply below_drew1 | refine below_set ?_ GE542.out) | exact HB.out)))); have n2_ := Aside0.mk (blk_below (g := gb542) (o := .cells #[.int .i64 a1_0, .int .i64 a1_1, .int .i64 a1_2, .int .i64 a1_3, .slice A1_4 l1_4.length c1_4, .string a1_5, .string a1_6, .float .f64 a1_7] 25 (0, 0)) (by (with_reducible repeat (first | refine blk_drewN ?_ _ | refine blk_drew ?_ | refine blk_alloc ?_ _)); exact BK542.out) hb); have n3_ := Aside0.mk (below_step (by repeat (first | (with_reducible first | exact HB.out | apply below_alloc | apply pw_below_drewN | apply below_drew1 | refine below_set ?_ GE542.out) | exact HB.out)) hb); clear HO1_4; clear BK542; clear HB; have HO1_4 := n0_; have HO545 := n1_; have BK542 := n2_; have HB := n3_; clear n0_ n1_ n2_ n3_; (try clear hb); (try clear hb2); (try clear hk); (try clear hi); (try clear ho0); obtain ⟨Ao13, co13, eo13⟩ := Kd.N_slice HO545.out; subst eo13))
 have n0_ := Aside0.mk (Kd.V_drew HO1_4.out)
 have n1_ := Aside0.mk (Kd.N_drew HO545.out)
 have n2_ := Aside0.mk (blk_drew BK542.out)
 have n3_ := Aside0.mk (below_drew1 HB.out)
 clear HO1_4
 clear HO545
 clear BK542
 clear HB
 have HO1_4 := n0_
 have HO545 := n1_
 have BK542 := n2_
 have HB := n3_
 clear n0_ n1_ n2_ n3_
 refine start_ (n := 7) (S := fun w' => w'.cell? ⟨gb542, 0, none⟩ = some (.int .i64 a1_0) ∧ w'.cell? ⟨gb542, 1, none⟩ = some (.int .i64 a1_1) ∧ w'.cell? ⟨gb542, 2, none⟩ = some (.int .i64 a1_2) ∧ w'.cell? ⟨gb542, 3, none⟩ = some (.int .i64 a1_3) ∧ w'.cell? ⟨gb542, 4, none⟩ = some (.slice A1_4 l1_4.length c1_4) ∧ w'.cell? ⟨gb542, 5, none⟩ = some (.string a1_5) ∧ w'.cell? ⟨gb542, 6, none⟩ = some (.string a1_6) ∧ w'.cell? ⟨gb542, 7, none⟩ = some (.float .f64 a1_7)) (ds := []) (bm 7 0) (by kernel_rfl) rfl rfl ⟨(blk_cell BK542.out 0).trans rfl, (blk_cell BK542.out 1).trans rfl, (blk_cell BK542.out 2).trans rfl, (blk_cell BK542.out 3).trans rfl, (blk_cell BK542.out 4).trans rfl, (blk_cell BK542.out 5).trans rfl, (blk_cell BK542.out 6).trans rfl, (blk_cell BK542.out 7).trans rfl⟩ (fun hHeld => ?_)
 generalize w12.drew = w14 at HO1_4 HO545 BK542 HB hHeld ⊢
 refine pure_ (i := 0) (N := some 19) (v := ?_) (a' := ?_) (bm 7 1) rfl rfl (by kernel_rfl) (fun _ _ _ h => h) (Or.inl ⟨by rfl, ?_⟩) ?_ ?_
 rotate_left
 ·intro w'
  go_simp
  with_reducible rfl
 rotate_left
 ·simp only [Act.put, List.setIfInBounds_toArray, List.set_cons_zero, List.set_cons_succ, i64_w, i32_w]
  rfl
 refine take_ (i := 2) (N := some 21) (v := ?_) (a' := ?_) (bm 7 5) rfl rfl (by kernel_rfl) (fun _ _ _ h => h) (Or.inl ⟨by rfl, ?_⟩) hHeld ?_ ?_
 rotate_left
 ·rintro w' ⟨s0, s1, s2, s3, s4, s5, s6, s7⟩
  go_simp
  with_reducible rfl
 rotate_left
 ·simp only [Act.put, List.setIfInBounds_toArray, List.set_cons_zero, List.set_cons_succ, i64_w, i32_w]
  rfl
 refine join_ (σ := Value × Value) 3 (bm 7 15) (fun s_ => [(20, s_.1), (22, s_.2)]) (fun s_ w' => (w'.cell? ⟨gb542, 0, none⟩ = some (.int .i64 a1_0) ∧ w'.cell? ⟨gb542, 1, none⟩ = some (.int .i64 a1_1) ∧ w'.cell? ⟨gb542, 2, none⟩ = some (.int .i64 a1_2) ∧ w'.cell? ⟨gb542, 3, none⟩ = some (.int .i64 a1_3) ∧ w'.cell? ⟨gb542, 4, none⟩ = some (.slice A1_4 l1_4.length c1_4) ∧ w'.cell? ⟨gb542, 5, none⟩ = some (.string a1_5) ∧ w'.cell? ⟨gb542, 6, none⟩ = some (.string a1_6) ∧ w'.cell? ⟨gb542, 7, none⟩ = some (.float .f64 a1_7)) ∧ (Kd.V (Kd.int .i32) 21 w' w.heap.size (fun k_ => (P1_4_ k_ ∨ w.heap.size ≤ k_) ∧ some k_ ≠ (.slice Ao13 t543.length co13 : Value).ownBlock ∧ some k_ ≠ (s_.1 : Value).ownBlock ∧ some k_ ≠ (s_.2 : Value).ownBlock ∧ k_ ≠ gb542) (.slice A1_4 l1_4.length c1_4) l1_4) ∧ (Kd.N k25 25 w' w.heap.size (fun k_ => (P1_4_ k_ ∨ w.heap.size ≤ k_) ∧ some k_ ≠ (s_.1 : Value).ownBlock ∧ some k_ ≠ (s_.2 : Value).ownBlock ∧ k_ ≠ gb542) (.slice Ao13 t543.length co13) t543) ∧ (Kd.N k25 25 w' w.heap.size (fun k_ => (P1_4_ k_ ∨ w.heap.size ≤ k_) ∧ some k_ ≠ (.slice Ao13 t543.length co13 : Value).ownBlock ∧ some k_ ≠ (s_.2 : Value).ownBlock ∧ k_ ≠ gb542) s_.1 t546) ∧ (Kd.N k25 25 w' w.heap.size (fun k_ => (P1_4_ k_ ∨ w.heap.size ≤ k_) ∧ some k_ ≠ (.slice Ao13 t543.length co13 : Value).ownBlock ∧ some k_ ≠ (s_.1 : Value).ownBlock ∧ k_ ≠ gb542) s_.2 y549) ∧ (w'.heap[gb542]? = some (.cells #[.int .i64 a1_0, .int .i64 a1_1, .int .i64 a1_2, .int .i64 a1_3, .slice A1_4 l1_4.length c1_4, .string a1_5, .string a1_6, .float .f64 a1_7] 25 (0, 0))) ∧ (Below w.heap.size w w')) ?_ ?_
 rotate_left
 ·intro hCont
  refine two_ (i := 1) (j := 3) (Ni := some 20) (Nj := some 22) (bm 7 7) (bm 7 13) rfl rfl rfl rfl (by kernel_rfl) (by decide) (by decide) (fun K hK => ?_) (fun K hK => ?_)
  ·skip
   refine goes_ Tryz.func27 (by kernel_rfl) rfl #[.slice Ao13 t543.length co13] (by rfl) rfl rfl sqA ?_
   with_reducible refine (endonymref6_Copied.calls k _ _ t543 t546 _ ?side1 ?side2 A5.out).mono ?_
   (case side1 => repeat (first | exact (Kd.N_reads' HO545.out).2.2 | (with_reducible refine Kd.C_alloc ?_ _) | (with_reducible refine Kd.C_drewN ?_ _) | (with_reducible refine Kd.C_drew ?_)))
   (case side2 => exact (Kd.N_reads' HO545.out).2.1)
   rintro e w15 ⟨v547, rfl, ho0, hb⟩
   refine ⟨_, rfl, ?_⟩
   have n0_ := Aside0.mk (Kd.V_elder' (sqV HO1_4.out) (Kd.S_base ho0) hb)
   have n1_ := Aside0.mk (Kd.N_elder' (by (with_reducible repeat (first | apply Kd.N_alloc | apply Kd.N_drewN | apply Kd.N_drew)); exact HO545.out) (Kd.S_base ho0) hb)
   have n2_ := Aside0.mk (Kd.N_lower (Kd.N_mono (ok' := fun k_ => (P1_4_ k_ ∨ w.heap.size ≤ k_) ∧ some k_ ≠ (.slice Ao13 t543.length co13 : Value).ownBlock ∧ k_ ≠ gb542) (Kd.S_N (Kd.S_bound ho0)) (fun k_ hk_ => ⟨(.inr (Nat.le_trans (below_size (by repeat (first | (with_reducible first | exact HB.out | apply below_alloc | apply pw_below_drewN | apply below_drew1 | refine below_set ?_ GE542.out) | exact HB.out))) hk_.2.1)), (Kd.fresh' (Kd.N_lt (by (with_reducible repeat (first | apply Kd.N_alloc | apply Kd.N_drewN | apply Kd.N_drew)); exact HO545.out)) k_ hk_.2.1), (Kd.freshB (g := gb542) (o := .cells #[.int .i64 a1_0, .int .i64 a1_1, .int .i64 a1_2, .int .i64 a1_3, .slice A1_4 l1_4.length c1_4, .string a1_5, .string a1_6, .float .f64 a1_7] 25 (0, 0)) (by (with_reducible repeat (first | refine blk_drewN ?_ _ | refine blk_drew ?_ | refine blk_alloc ?_ _)); exact BK542.out) k_ hk_.2.1)⟩)) (below_size (by repeat (first | (with_reducible first | exact HB.out | apply below_alloc | apply pw_below_drewN | apply below_drew1 | refine below_set ?_ GE542.out) | exact HB.out))))
   have n3_ := Aside0.mk (blk_below (g := gb542) (o := .cells #[.int .i64 a1_0, .int .i64 a1_1, .int .i64 a1_2, .int .i64 a1_3, .slice A1_4 l1_4.length c1_4, .string a1_5, .string a1_6, .float .f64 a1_7] 25 (0, 0)) (by (with_reducible repeat (first | refine blk_drewN ?_ _ | refine blk_drew ?_ | refine blk_alloc ?_ _)); exact BK542.out) hb)
   have n4_ := Aside0.mk (below_step (by repeat (first | (with_reducible first | exact HB.out | apply below_alloc | apply pw_below_drewN | apply below_drew1 | refine below_set ?_ GE542.out) | exact HB.out)) hb)
   clear HO1_4
   clear HO545
   clear BK542
   clear HB
   have HO1_4 := n0_
   have HO545 := n1_
   have HO548 := n2_
   have BK542 := n3_
   have HB := n4_
   clear n0_ n1_ n2_ n3_ n4_
   (try clear hb)
   (try clear hb2)
   (try clear hk)
   (try clear hi)
   (try clear ho0)
   refine hK.out _ _ ⟨(blk_cell BK542.out 0).trans rfl, (blk_cell BK542.out 1).trans rfl, (blk_cell BK542.out 2).trans rfl, (blk_cell BK542.out 3).trans rfl, (blk_cell BK542.out 4).trans rfl, (blk_cell BK542.out 5).trans rfl, (blk_cell BK542.out 6).trans rfl, (blk_cell BK542.out 7).trans rfl⟩ (fun hHeld => ?_)
   clear hK K
   refine sqN 20 ?_
   refine one_ (i := 3) (N := some 22) (bm 7 15) rfl rfl (by kernel_rfl) (by decide) (fun K hK => ?_)
   refine Kd.N_lit_step k25 _ 25 ?hg (N' := 22) ?hd (xs := ([(⟨a1_0, a1_1, a1_2, a1_3, l1_4, a1_5, a1_6, a1_7⟩ : S25)] : List (S25))) (inner := [.int .i64 a1_0, .int .i64 a1_1, .int .i64 a1_2, .int .i64 a1_3, .slice A1_4 l1_4.length c1_4, .string a1_5, .string a1_6, .float .f64 a1_7]) (ok := (fun k_ => (P1_4_ k_ ∨ w.heap.size ≤ k_) ∧ some k_ ≠ (.slice Ao13 t543.length co13 : Value).ownBlock ∧ some k_ ≠ (v547 : Value).ownBlock ∧ k_ ≠ gb542)) (okp := (fun k_ => (P1_4_ k_ ∨ w.heap.size ≤ k_) ∧ some k_ ≠ (.slice Ao13 t543.length co13 : Value).ownBlock ∧ some k_ ≠ (v547 : Value).ownBlock ∧ k_ ≠ gb542)) ?hr ?hp (fun _ hk => hk) ((show ∀ k_, w15.heap.size ≤ k_ → (fun k_ => (P1_4_ k_ ∨ w.heap.size ≤ k_) ∧ some k_ ≠ (.slice Ao13 t543.length co13 : Value).ownBlock ∧ some k_ ≠ (v547 : Value).ownBlock ∧ k_ ≠ gb542) k_ from fun k_ hk => ⟨(.inr (Nat.le_trans (below_size (by repeat (first | (with_reducible first | exact HB.out | apply below_alloc | apply pw_below_drewN | apply below_drew1 | refine below_set ?_ GE542.out) | exact HB.out))) hk)), Kd.fresh' (Kd.N_lt (by (with_reducible repeat (first | apply Kd.N_alloc | apply Kd.N_drewN | apply Kd.N_drew)); exact HO545.out)) k_ hk, Kd.fresh' (Kd.N_lt (by (with_reducible repeat (first | apply Kd.N_alloc | apply Kd.N_drewN | apply Kd.N_drew)); exact HO548.out)) k_ hk, Kd.freshB (g := gb542) (o := .cells #[.int .i64 a1_0, .int .i64 a1_1, .int .i64 a1_2, .int .i64 a1_3, .slice A1_4 l1_4.length c1_4, .string a1_5, .string a1_6, .float .f64 a1_7] 25 (0, 0)) (by (with_reducible repeat (first | refine blk_drewN ?_ _ | refine blk_drew ?_ | refine blk_alloc ?_ _)); exact BK542.out) k_ hk⟩) _ (Nat.le_refl _)) (Below.refl _ _) (Nat.le_refl _) (by simp) ?_; (case hd => rfl); (case hg => rfl); (case hr => first | (go_simp; done) | (go_simp; rfl)); (case hp => exact (Reps.c8 (show Kd.FK k25 _ _ (⟨a1_0, a1_1, a1_2, a1_3, l1_4, a1_5, a1_6, a1_7⟩ : S25) [.int .i64 a1_0, .int .i64 a1_1, .int .i64 a1_2, .int .i64 a1_3, .slice A1_4 l1_4.length c1_4, .string a1_5, .string a1_6, .float .f64 a1_7] from (k25_mkF _ _ (⟨a1_0, a1_1, a1_2, a1_3, l1_4, a1_5, a1_6, a1_7⟩ : S25) (Kd.V_reads' (Kd.V_mono (ok' := (fun k_ => (P1_4_ k_ ∨ w.heap.size ≤ k_) ∧ some k_ ≠ (.slice Ao13 t543.length co13 : Value).ownBlock ∧ some k_ ≠ (v547 : Value).ownBlock ∧ k_ ≠ gb542)) (HO1_4.out) (fun k_ hk => ⟨hk.1.1.1, ⟨hk.1.2, ⟨hk.2, hk.1.1.2⟩⟩⟩))).2.1 (Kd.V_F (Kd.V_mono (ok' := (fun k_ => (P1_4_ k_ ∨ w.heap.size ≤ k_) ∧ some k_ ≠ (.slice Ao13 t543.length co13 : Value).ownBlock ∧ some k_ ≠ (v547 : Value).ownBlock ∧ k_ ≠ gb542)) (HO1_4.out) (fun k_ hk => ⟨hk.1.1.1, ⟨hk.1.2, ⟨hk.2, hk.1.1.2⟩⟩⟩))))) (Reps.none _ _)))
   intro v550 w16 ho17 hb hg_ hnew_
   clear hg_ hnew_
   (first | rw [← Ny549.out] at ho17 | (simp only [Int.reduceToNat] at ho17; rw [← Ny549.out] at ho17))
   have n0_ := Aside0.mk (Kd.V_elder' (sqV HO1_4.out) (Kd.N_base ho17) hb)
   have n1_ := Aside0.mk (Kd.N_elder' (by (with_reducible repeat (first | apply Kd.N_alloc | apply Kd.N_drewN | apply Kd.N_drew)); exact HO545.out) (Kd.N_base ho17) hb)
   have n2_ := Aside0.mk (Kd.N_elder' (by (with_reducible repeat (first | apply Kd.N_alloc | apply Kd.N_drewN | apply Kd.N_drew)); exact HO548.out) (Kd.N_base ho17) hb)
   have n3_ := Aside0.mk (Kd.N_lower ho17 (below_size (by repeat (first | (with_reducible first | exact HB.out | apply below_alloc | apply pw_below_drewN | apply below_drew1 | refine below_set ?_ GE542.out) | exact HB.out))))
   have n4_ := Aside0.mk (blk_below (g := gb542) (o := .cells #[.int .i64 a1_0, .int .i64 a1_1, .int .i64 a1_2, .int .i64 a1_3, .slice A1_4 l1_4.length c1_4, .string a1_5, .string a1_6, .float .f64 a1_7] 25 (0, 0)) (by (with_reducible repeat (first | refine blk_drewN ?_ _ | refine blk_drew ?_ | refine blk_alloc ?_ _)); exact BK542.out) hb)
   have n5_ := Aside0.mk (below_step (by repeat (first | (with_reducible first | exact HB.out | apply below_alloc | apply pw_below_drewN | apply below_drew1 | refine below_set ?_ GE542.out) | exact HB.out)) hb)
   clear HO1_4
   clear HO545
   clear HO548
   clear BK542
   clear HB
   have HO1_4 := n0_
   have HO545 := n1_
   have HO548 := n2_
   have HO551 := n3_
   have BK542 := n4_
   have HB := n5_
   clear n0_ n1_ n2_ n3_ n4_ n5_
   clear hb ho17
   refine hK.out _ _ ⟨(blk_cell BK542.out 0).trans rfl, (blk_cell BK542.out 1).trans rfl, (blk_cell BK542.out 2).trans rfl, (blk_cell BK542.out 3).trans rfl, (blk_cell BK542.out 4).trans rfl, (blk_cell BK542.out 5).trans rfl, (blk_cell BK542.out 6).trans rfl, (blk_cell BK542.out 7).trans rfl⟩ (fun hHeld => ?_)
   clear hK K
   refine sqN 22 ?_
   exact norm_ (by simp only [putAll, Act.put, List.setIfInBounds_toArray, List.set_cons_zero, List.set_cons_succ]) (hCont (v547, v550) _ ⟨hHeld, (by (with_reducible repeat (first | apply Kd.V_alloc | apply Kd.V_drewN | apply Kd.V_drew)); exact Kd.V_mono HO1_4.out (fun _ hk => ⟨hk.1.1.1.1, ⟨hk.1.1.2, ⟨hk.1.2, ⟨hk.2, hk.1.1.1.2⟩⟩⟩⟩)), (by (with_reducible repeat (first | apply Kd.N_alloc | apply Kd.N_drewN | apply Kd.N_drew)); exact Kd.N_mono HO545.out (fun _ hk => ⟨hk.1.1.1, ⟨hk.1.2, ⟨hk.2, hk.1.1.2⟩⟩⟩)), (by (with_reducible repeat (first | apply Kd.N_alloc | apply Kd.N_drewN | apply Kd.N_drew)); exact Kd.N_mono HO548.out (fun _ hk => ⟨hk.1.1, ⟨hk.1.2.1, ⟨hk.2, hk.1.2.2⟩⟩⟩)), (by (with_reducible repeat (first | apply Kd.N_alloc | apply Kd.N_drewN | apply Kd.N_drew)); exact HO551.out), (by (with_reducible repeat (first | refine blk_drewN ?_ _ | refine blk_drew ?_ | refine blk_alloc ?_ _)); exact BK542.out), (by repeat (first | (with_reducible first | exact HB.out | apply below_alloc | apply pw_below_drewN | apply below_drew1 | refine below_set ?_ GE542.out) | exact HB.out))⟩)
  skip
  refine Kd.N_lit_step k25 _ 25 ?hg (N' := 22) ?hd (xs := ([(⟨a1_0, a1_1, a1_2, a1_3, l1_4, a1_5, a1_6, a1_7⟩ : S25)] : List (S25))) (inner := [.int .i64 a1_0, .int .i64 a1_1, .int .i64 a1_2, .int .i64 a1_3, .slice A1_4 l1_4.length c1_4, .string a1_5, .string a1_6, .float .f64 a1_7]) (ok := (fun k_ => (P1_4_ k_ ∨ w.heap.size ≤ k_) ∧ some k_ ≠ (.slice Ao13 t543.length co13 : Value).ownBlock ∧ k_ ≠ gb542)) (okp := (fun k_ => (P1_4_ k_ ∨ w.heap.size ≤ k_) ∧ some k_ ≠ (.slice Ao13 t543.length co13 : Value).ownBlock ∧ k_ ≠ gb542)) ?hr ?hp (fun _ hk => hk) ((show ∀ k_, w14.heap.size ≤ k_ → (fun k_ => (P1_4_ k_ ∨ w.heap.size ≤ k_) ∧ some k_ ≠ (.slice Ao13 t543.length co13 : Value).ownBlock ∧ k_ ≠ gb542) k_ from fun k_ hk => ⟨(.inr (Nat.le_trans (below_size (by repeat (first | (with_reducible first | exact HB.out | apply below_alloc | apply pw_below_drewN | apply below_drew1 | refine below_set ?_ GE542.out) | exact HB.out))) hk)), Kd.fresh' (Kd.N_lt (by (with_reducible repeat (first | apply Kd.N_alloc | apply Kd.N_drewN | apply Kd.N_drew)); exact HO545.out)) k_ hk, Kd.freshB (g := gb542) (o := .cells #[.int .i64 a1_0, .int .i64 a1_1, .int .i64 a1_2, .int .i64 a1_3, .slice A1_4 l1_4.length c1_4, .string a1_5, .string a1_6, .float .f64 a1_7] 25 (0, 0)) (by (with_reducible repeat (first | refine blk_drewN ?_ _ | refine blk_drew ?_ | refine blk_alloc ?_ _)); exact BK542.out) k_ hk⟩) _ (Nat.le_refl _)) (Below.refl _ _) (Nat.le_refl _) (by simp) ?_; (case hd => rfl); (case hg => rfl); (case hr => first | (go_simp; done) | (go_simp; rfl)); (case hp => exact (Reps.c8 (show Kd.FK k25 _ _ (⟨a1_0, a1_1, a1_2, a1_3, l1_4, a1_5, a1_6, a1_7⟩ : S25) [.int .i64 a1_0, .int .i64 a1_1, .int .i64 a1_2, .int .i64 a1_3, .slice A1_4 l1_4.length c1_4, .string a1_5, .string a1_6, .float .f64 a1_7] from (k25_mkF _ _ (⟨a1_0, a1_1, a1_2, a1_3, l1_4, a1_5, a1_6, a1_7⟩ : S25) (Kd.V_reads' (Kd.V_mono (ok' := (fun k_ => (P1_4_ k_ ∨ w.heap.size ≤ k_) ∧ some k_ ≠ (.slice Ao13 t543.length co13 : Value).ownBlock ∧ k_ ≠ gb542)) (HO1_4.out) (fun k_ hk => ⟨hk.1.1, ⟨hk.2, hk.1.2⟩⟩))).2.1 (Kd.V_F (Kd.V_mono (ok' := (fun k_ => (P1_4_ k_ ∨ w.heap.size ≤ k_) ∧ some k_ ≠ (.slice Ao13 t543.length co13 : Value).ownBlock ∧ k_ ≠ gb542)) (HO1_4.out) (fun k_ hk => ⟨hk.1.1, ⟨hk.2, hk.1.2⟩⟩))))) (Reps.none _ _)))
  intro v550 w15 ho16 hb hg_ hnew_
  clear hg_ hnew_
  (first | rw [← Ny549.out] at ho16 | (simp only [Int.reduceToNat] at ho16; rw [← Ny549.out] at ho16))
  have n0_ := Aside0.mk (Kd.V_elder' (sqV HO1_4.out) (Kd.N_base ho16) hb)
  have n1_ := Aside0.mk (Kd.N_elder' (by (with_reducible repeat (first | apply Kd.N_alloc | apply Kd.N_drewN | apply Kd.N_drew)); exact HO545.out) (Kd.N_base ho16) hb)
  have n2_ := Aside0.mk (Kd.N_lower ho16 (below_size (by repeat (first | (with_reducible first | exact HB.out | apply below_alloc | apply pw_below_drewN | apply below_drew1 | refine below_set ?_ GE542.out) | exact HB.out))))
  have n3_ := Aside0.mk (blk_below (g := gb542) (o := .cells #[.int .i64 a1_0, .int .i64 a1_1, .int .i64 a1_2, .int .i64 a1_3, .slice A1_4 l1_4.length c1_4, .string a1_5, .string a1_6, .float .f64 a1_7] 25 (0, 0)) (by (with_reducible repeat (first | refine blk_drewN ?_ _ | refine blk_drew ?_ | refine blk_alloc ?_ _)); exact BK542.out) hb)
  have n4_ := Aside0.mk (below_step (by repeat (first | (with_reducible first | exact HB.out | apply below_alloc | apply pw_below_drewN | apply below_drew1 | refine below_set ?_ GE542.out) | exact HB.out)) hb)
  clear HO1_4
  clear HO545
  clear BK542
  clear HB
  have HO1_4 := n0_
  have HO545 := n1_
  have HO551 := n2_
  have BK542 := n3_
  have HB := n4_
  clear n0_ n1_ n2_ n3_ n4_
  clear hb ho16
  refine hK.out _ _ ⟨(blk_cell BK542.out 0).trans rfl, (blk_cell BK542.out 1).trans rfl, (blk_cell BK542.out 2).trans rfl, (blk_cell BK542.out 3).trans rfl, (blk_cell BK542.out 4).trans rfl, (blk_cell BK542.out 5).trans rfl, (blk_cell BK542.out 6).trans rfl, (blk_cell BK542.out 7).trans rfl⟩ (fun hHeld => ?_)
  clear hK K
  refine sqN 22 ?_
  refine one_ (i := 1) (N := some 20) (bm 7 15) rfl rfl (by kernel_rfl) (by decide) (fun K hK => ?_)
  refine goes_ Tryz.func27 (by kernel_rfl) rfl #[.slice Ao13 t543.length co13] (by rfl) rfl rfl sqA ?_
  with_reducible refine (endonymref6_Copied.calls k _ _ t543 t546 _ ?side1 ?side2 A5.out).mono ?_
  (case side1 => repeat (first | exact (Kd.N_reads' HO545.out).2.2 | (with_reducible refine Kd.C_alloc ?_ _) | (with_reducible refine Kd.C_drewN ?_ _) | (with_reducible refine Kd.C_drew ?_)))
  (case side2 => exact (Kd.N_reads' HO545.out).2.1)
  rintro e w17 ⟨v547, rfl, ho0, hb⟩
  refine ⟨_, rfl, ?_⟩
  have n0_ := Aside0.mk (Kd.V_elder' (sqV HO1_4.out) (Kd.S_base ho0) hb)
  have n1_ := Aside0.mk (Kd.N_elder' (by (with_reducible repeat (first | apply Kd.N_alloc | apply Kd.N_drewN | apply Kd.N_drew)); exact HO545.out) (Kd.S_base ho0) hb)
  have n2_ := Aside0.mk (Kd.N_elder' (by (with_reducible repeat (first | apply Kd.N_alloc | apply Kd.N_drewN | apply Kd.N_drew)); exact HO551.out) (Kd.S_base ho0) hb)
  have n3_ := Aside0.mk (Kd.N_lower (Kd.N_mono (ok' := fun k_ => (P1_4_ k_ ∨ w.heap.size ≤ k_) ∧ some k_ ≠ (.slice Ao13 t543.length co13 : Value).ownBlock ∧ some k_ ≠ (v550 : Value).ownBlock ∧ k_ ≠ gb542) (Kd.S_N (Kd.S_bound ho0)) (fun k_ hk_ => ⟨(.inr (Nat.le_trans (below_size (by repeat (first | (with_reducible first | exact HB.out | apply below_alloc | apply pw_below_drewN | apply below_drew1 | refine below_set ?_ GE542.out) | exact HB.out))) hk_.2.1)), (Kd.fresh' (Kd.N_lt (by (with_reducible repeat (first | apply Kd.N_alloc | apply Kd.N_drewN | apply Kd.N_drew)); exact HO545.out)) k_ hk_.2.1), (Kd.fresh' (Kd.N_lt (by (with_reducible repeat (first | apply Kd.N_alloc | apply Kd.N_drewN | apply Kd.N_drew)); exact HO551.out)) k_ hk_.2.1), (Kd.freshB (g := gb542) (o := .cells #[.int .i64 a1_0, .int .i64 a1_1, .int .i64 a1_2, .int .i64 a1_3, .slice A1_4 l1_4.length c1_4, .string a1_5, .string a1_6, .float .f64 a1_7] 25 (0, 0)) (by (with_reducible repeat (first | refine blk_drewN ?_ _ | refine blk_drew ?_ | refine blk_alloc ?_ _)); exact BK542.out) k_ hk_.2.1)⟩)) (below_size (by repeat (first | (with_reducible first | exact HB.out | apply below_alloc | apply pw_below_drewN | apply below_drew1 | refine below_set ?_ GE542.out) | exact HB.out))))
  have n4_ := Aside0.mk (blk_below (g := gb542) (o := .cells #[.int .i64 a1_0, .int .i64 a1_1, .int .i64 a1_2, .int .i64 a1_3, .slice A1_4 l1_4.length c1_4, .string a1_5, .string a1_6, .float .f64 a1_7] 25 (0, 0)) (by (with_reducible repeat (first | refine blk_drewN ?_ _ | refine blk_drew ?_ | refine blk_alloc ?_ _)); exact BK542.out) hb)
  have n5_ := Aside0.mk (below_step (by repeat (first | (with_reducible first | exact HB.out | apply below_alloc | apply pw_below_drewN | apply below_drew1 | refine below_set ?_ GE542.out) | exact HB.out)) hb)
  clear HO1_4
  clear HO545
  clear HO551
  clear BK542
  clear HB
  have HO1_4 := n0_
  have HO545 := n1_
  have HO551 := n2_
  have HO548 := n3_
  have BK542 := n4_
  have HB := n5_
  clear n0_ n1_ n2_ n3_ n4_ n5_
  (try clear hb)
  (try clear hb2)
  (try clear hk)
  (try clear hi)
  (try clear ho0)
  refine hK.out _ _ ⟨(blk_cell BK542.out 0).trans rfl, (blk_cell BK542.out 1).trans rfl, (blk_cell BK542.out 2).trans rfl, (blk_cell BK542.out 3).trans rfl, (blk_cell BK542.out 4).trans rfl, (blk_cell BK542.out 5).trans rfl, (blk_cell BK542.out 6).trans rfl, (blk_cell BK542.out 7).trans rfl⟩ (fun hHeld => ?_)
  clear hK K
  refine sqN 20 ?_
  exact norm_ (by simp only [putAll, Act.put, List.setIfInBounds_toArray, List.set_cons_zero, List.set_cons_succ]) (hCont (v547, v550) _ ⟨hHeld, (by (with_reducible repeat (first | apply Kd.V_alloc | apply Kd.V_drewN | apply Kd.V_drew)); exact Kd.V_mono HO1_4.out (fun _ hk => ⟨hk.1.1.1.1, ⟨hk.1.1.2, ⟨hk.2, ⟨hk.1.2, hk.1.1.1.2⟩⟩⟩⟩)), (by (with_reducible repeat (first | apply Kd.N_alloc | apply Kd.N_drewN | apply Kd.N_drew)); exact Kd.N_mono HO545.out (fun _ hk => ⟨hk.1.1.1, ⟨hk.2, ⟨hk.1.2, hk.1.1.2⟩⟩⟩)), (by (with_reducible repeat (first | apply Kd.N_alloc | apply Kd.N_drewN | apply Kd.N_drew)); exact HO548.out), (by (with_reducible repeat (first | apply Kd.N_alloc | apply Kd.N_drewN | apply Kd.N_drew)); exact Kd.N_mono HO551.out (fun _ hk => ⟨hk.1.1, ⟨hk.1.2.1, ⟨hk.2, hk.1.2.2⟩⟩⟩)), (by (with_reducible repeat (first | refine blk_drewN ?_ _ | refine blk_drew ?_ | refine blk_alloc ?_ _)); exact BK542.out), (by repeat (first | (with_reducible first | exact HB.out | apply below_alloc | apply pw_below_drewN | apply below_drew1 | refine below_set ?_ GE542.out) | exact HB.out))⟩)
 rintro ⟨v547, v550⟩ w18 ⟨hS_, h0_, h1_, h2_, h3_, h4_, h5_⟩
 have n0_ : Aside0 (Kd.V (Kd.int .i32) 21 w18 w.heap.size (fun k_ => (P1_4_ k_ ∨ w.heap.size ≤ k_) ∧ some k_ ≠ (.slice Ao13 t543.length co13 : Value).ownBlock ∧ some k_ ≠ (v547 : Value).ownBlock ∧ some k_ ≠ (v550 : Value).ownBlock ∧ k_ ≠ gb542) (.slice A1_4 l1_4.length c1_4) l1_4) := ⟨h0_⟩
 have n1_ : Aside0 (Kd.N k25 25 w18 w.heap.size (fun k_ => (P1_4_ k_ ∨ w.heap.size ≤ k_) ∧ some k_ ≠ (v547 : Value).ownBlock ∧ some k_ ≠ (v550 : Value).ownBlock ∧ k_ ≠ gb542) (.slice Ao13 t543.length co13) t543) := ⟨h1_⟩
 have n2_ : Aside0 (Kd.N k25 25 w18 w.heap.size (fun k_ => (P1_4_ k_ ∨ w.heap.size ≤ k_) ∧ some k_ ≠ (.slice Ao13 t543.length co13 : Value).ownBlock ∧ some k_ ≠ (v550 : Value).ownBlock ∧ k_ ≠ gb542) v547 t546) := ⟨h2_⟩
 have n3_ : Aside0 (Kd.N k25 25 w18 w.heap.size (fun k_ => (P1_4_ k_ ∨ w.heap.size ≤ k_) ∧ some k_ ≠ (.slice Ao13 t543.length co13 : Value).ownBlock ∧ some k_ ≠ (v547 : Value).ownBlock ∧ k_ ≠ gb542) v550 y549) := ⟨h3_⟩
 have n4_ : Aside0 (w18.heap[gb542]? = some (.cells #[.int .i64 a1_0, .int .i64 a1_1, .int .i64 a1_2, .int .i64 a1_3, .slice A1_4 l1_4.length c1_4, .string a1_5, .string a1_6, .float .f64 a1_7] 25 (0, 0))) := ⟨h4_⟩
 have n5_ : Aside0 (Below w.heap.size w w18) := ⟨h5_⟩
 clear HO1_4
 clear HO545
 clear BK542
 clear HB
 clear h0_ h1_ h2_ h3_ h4_ h5_
 have HO1_4 := n0_
 have HO545 := n1_
 have HO548 := n2_
 have HO551 := n3_
 have BK542 := n4_
 have HB := n5_
 clear n0_ n1_ n2_ n3_ n4_ n5_
 have hHeld : w18.cell? ⟨gb542, 0, none⟩ = some (.int .i64 a1_0) ∧ w18.cell? ⟨gb542, 1, none⟩ = some (.int .i64 a1_1) ∧ w18.cell? ⟨gb542, 2, none⟩ = some (.int .i64 a1_2) ∧ w18.cell? ⟨gb542, 3, none⟩ = some (.int .i64 a1_3) ∧ w18.cell? ⟨gb542, 4, none⟩ = some (.slice A1_4 l1_4.length c1_4) ∧ w18.cell? ⟨gb542, 5, none⟩ = some (.string a1_5) ∧ w18.cell? ⟨gb542, 6, none⟩ = some (.string a1_6) ∧ w18.cell? ⟨gb542, 7, none⟩ = some (.float .f64 a1_7) := hS_
 obtain ⟨Ao19, co19, eo19⟩ := Kd.N_slice HO551.out
 (first | subst eo19 | (injection eo19 with f1_ f2_ f3_; have f4_ := f1_.symm; have f5_ := f3_.symm; clear f1_ f2_ f3_; subst f4_; subst f5_))
 refine norm_ (a' := ?_) ?_ ?_
 rotate_left
 ·simp only [putAll, Act.put, List.setIfInBounds_toArray, List.set_cons_zero, List.set_cons_succ]
  rfl
 refine one_ (i := 4) (N := some 23) (bm 7 31) rfl rfl (by kernel_rfl) (by decide) (fun K hK => ?_)
 refine goes_ Tryz.func14 (by kernel_rfl) rfl #[.slice Ao19 y549.length co19, .int .i64 1] (by rfl) rfl rfl sqA ?_
 with_reducible refine (endonymlaw6_few.calls k _ _ y549 1 t552 _ ?side1 ?side2 A6.out).mono ?_
 (case side1 => repeat (first | exact (Kd.N_reads' HO551.out).2.2 | (with_reducible refine Kd.C_alloc ?_ _) | (with_reducible refine Kd.C_drewN ?_ _) | (with_reducible refine Kd.C_drew ?_)))
 (case side2 => exact (Kd.N_reads' HO551.out).2.1)
 rintro e w20 ⟨v553, rfl, ⟨ho0, _⟩, hb⟩
 refine ⟨_, rfl, ?_⟩
 have n0_ := Aside0.mk (Kd.V_elder' (sqV HO1_4.out) (Kd.S_base ho0) hb)
 have n1_ := Aside0.mk (Kd.N_elder' (by (with_reducible repeat (first | apply Kd.N_alloc | apply Kd.N_drewN | apply Kd.N_drew)); exact HO545.out) (Kd.S_base ho0) hb)
 have n2_ := Aside0.mk (Kd.N_elder' (by (with_reducible repeat (first | apply Kd.N_alloc | apply Kd.N_drewN | apply Kd.N_drew)); exact HO548.out) (Kd.S_base ho0) hb)
 have n3_ := Aside0.mk (Kd.N_elder' (by (with_reducible repeat (first | apply Kd.N_alloc | apply Kd.N_drewN | apply Kd.N_drew)); exact HO551.out) (Kd.S_base ho0) hb)
 have n4_ := Aside0.mk (Kd.N_lower (Kd.N_mono (ok' := fun k_ => (P1_4_ k_ ∨ w.heap.size ≤ k_) ∧ some k_ ≠ (.slice Ao13 t543.length co13 : Value).ownBlock ∧ some k_ ≠ (v547 : Value).ownBlock ∧ some k_ ≠ (.slice Ao19 y549.length co19 : Value).ownBlock ∧ k_ ≠ gb542) (Kd.S_N (Kd.S_bound ho0)) (fun k_ hk_ => ⟨(.inr (Nat.le_trans (below_size (by repeat (first | (with_reducible first | exact HB.out | apply below_alloc | apply pw_below_drewN | apply below_drew1 | refine below_set ?_ GE542.out) | exact HB.out))) hk_.2.1)), (Kd.fresh' (Kd.N_lt (by (with_reducible repeat (first | apply Kd.N_alloc | apply Kd.N_drewN | apply Kd.N_drew)); exact HO545.out)) k_ hk_.2.1), (Kd.fresh' (Kd.N_lt (by (with_reducible repeat (first | apply Kd.N_alloc | apply Kd.N_drewN | apply Kd.N_drew)); exact HO548.out)) k_ hk_.2.1), (Kd.fresh' (Kd.N_lt (by (with_reducible repeat (first | apply Kd.N_alloc | apply Kd.N_drewN | apply Kd.N_drew)); exact HO551.out)) k_ hk_.2.1), (Kd.freshB (g := gb542) (o := .cells #[.int .i64 a1_0, .int .i64 a1_1, .int .i64 a1_2, .int .i64 a1_3, .slice A1_4 l1_4.length c1_4, .string a1_5, .string a1_6, .float .f64 a1_7] 25 (0, 0)) (by (with_reducible repeat (first | refine blk_drewN ?_ _ | refine blk_drew ?_ | refine blk_alloc ?_ _)); exact BK542.out) k_ hk_.2.1)⟩)) (below_size (by repeat (first | (with_reducible first | exact HB.out | apply below_alloc | apply pw_below_drewN | apply below_drew1 | refine below_set ?_ GE542.out) | exact HB.out))))
 have n5_ := Aside0.mk (blk_below (g := gb542) (o := .cells #[.int .i64 a1_0, .int .i64 a1_1, .int .i64 a1_2, .int .i64 a1_3, .slice A1_4 l1_4.length c1_4, .string a1_5, .string a1_6, .float .f64 a1_7] 25 (0, 0)) (by (with_reducible repeat (first | refine blk_drewN ?_ _ | refine blk_drew ?_ | refine blk_alloc ?_ _)); exact BK542.out) hb)
 have n6_ := Aside0.mk (below_step (by repeat (first | (with_reducible first | exact HB.out | apply below_alloc | apply pw_below_drewN | apply below_drew1 | refine below_set ?_ GE542.out) | exact HB.out)) hb)
 clear HO1_4
 clear HO545
 clear HO548
 clear HO551
 clear BK542
 clear HB
 have HO1_4 := n0_
 have HO545 := n1_
 have HO548 := n2_
 have HO551 := n3_
 have HO554 := n4_
 have BK542 := n5_
 have HB := n6_
 clear n0_ n1_ n2_ n3_ n4_ n5_ n6_
 (try clear hb)
 (try clear hb2)
 (try clear hk)
 (try clear hi)
 (try clear ho0)
 obtain ⟨Ao22, co22, eo22⟩ := Kd.N_slice HO554.out
 (first | subst eo22 | (injection eo22 with f1_ f2_ f3_; have f4_ := f1_.symm; have f5_ := f3_.symm; clear f1_ f2_ f3_; subst f4_; subst f5_))
 refine hK.out _ _ ⟨(blk_cell BK542.out 0).trans rfl, (blk_cell BK542.out 1).trans rfl, (blk_cell BK542.out 2).trans rfl, (blk_cell BK542.out 3).trans rfl, (blk_cell BK542.out 4).trans rfl, (blk_cell BK542.out 5).trans rfl, (blk_cell BK542.out 6).trans rfl, (blk_cell BK542.out 7).trans rfl⟩ (fun hHeld => ?_)
 clear hK K
 refine sqN 23 ?_
 refine one_ (i := 5) (N := some 24) (bm 7 63) rfl rfl (by kernel_rfl) (by decide) (fun K hK => ?_)
 refine Kd.N_append_rows_step k25 (w0 := w) w.heap.size (by rfl) (.tmp 20) (.tmp 23) 26 25 (.agg #[(.int .i64 0), (.int .i64 0), (.int .i64 0), (.int .i64 0), (.slice none 0 0), (.string ⟨#[]⟩), (.string ⟨#[]⟩), (.float .f64 0)]) 96 rfl Tryz.underlying26 info25 rfl (by decide) (by omega) v547 t546 t552 _ _ _ (fun k_ => (P1_4_ k_ ∨ w.heap.size ≤ k_) ∧ some k_ ≠ (.slice Ao13 t543.length co13 : Value).ownBlock ∧ some k_ ≠ (.slice Ao19 y549.length co19 : Value).ownBlock ∧ k_ ≠ gb542) (fun k_ => ((fun k_ => (P1_4_ k_ ∨ w.heap.size ≤ k_) ∧ some k_ ≠ (.slice Ao13 t543.length co13 : Value).ownBlock ∧ some k_ ≠ (.slice Ao19 y549.length co19 : Value).ownBlock ∧ k_ ≠ gb542)) k_ ∧ some k_ ≠ (v547 : Value).ownBlock) rfl rfl ?aO ?aR (fun _ hk => hk) ?aF ?aB ?aS ?aL ?_
 (case aR => exact (by skip; exact Kd.N_F (Kd.N_mono (ok' := (fun k_ => ((fun k_ => (P1_4_ k_ ∨ w.heap.size ≤ k_) ∧ some k_ ≠ (.slice Ao13 t543.length co13 : Value).ownBlock ∧ some k_ ≠ (.slice Ao19 y549.length co19 : Value).ownBlock ∧ k_ ≠ gb542)) k_ ∧ some k_ ≠ (v547 : Value).ownBlock)) (HO554.out) (fun k_ hk => ⟨⟨hk.1, ⟨hk.2.1, ⟨hk.2.2.2.1, hk.2.2.2.2⟩⟩⟩, hk.2.2.1⟩))))
 (case aB => exact (by repeat (first | (with_reducible first | exact HB.out | apply below_alloc | apply pw_below_drewN | apply below_drew1 | refine below_set ?_ GE542.out) | exact HB.out)))
 (case aF => exact (fun k_ hk => ⟨(.inr (Nat.le_trans (below_size (by repeat (first | (with_reducible first | exact HB.out | apply below_alloc | apply pw_below_drewN | apply below_drew1 | refine below_set ?_ GE542.out) | exact HB.out))) hk)), Kd.fresh' (Kd.N_lt (by (with_reducible repeat (first | apply Kd.N_alloc | apply Kd.N_drewN | apply Kd.N_drew)); exact HO545.out)) k_ hk, Kd.fresh' (Kd.N_lt (by (with_reducible repeat (first | apply Kd.N_alloc | apply Kd.N_drewN | apply Kd.N_drew)); exact HO551.out)) k_ hk, Kd.freshB (g := gb542) (o := .cells #[.int .i64 a1_0, .int .i64 a1_1, .int .i64 a1_2, .int .i64 a1_3, .slice A1_4 l1_4.length c1_4, .string a1_5, .string a1_6, .float .f64 a1_7] 25 (0, 0)) (by (with_reducible repeat (first | refine blk_drewN ?_ _ | refine blk_drew ?_ | refine blk_alloc ?_ _)); exact BK542.out) k_ hk⟩))
 (case aO => exact (by (with_reducible repeat (first | apply Kd.N_alloc | apply Kd.N_drewN | apply Kd.N_drew)); exact Kd.N_mono HO548.out (fun _ hk => ⟨hk.1.1, ⟨hk.1.2.1, ⟨hk.1.2.2.1, hk.1.2.2.2⟩⟩⟩)))
 (case aS => exact (below_size (by repeat (first | (with_reducible first | exact HB.out | apply below_alloc | apply pw_below_drewN | apply below_drew1 | refine below_set ?_ GE542.out) | exact HB.out))))
 (case aL => have := LMc7.out; omega)
 intro v556 w21 ho hb hg hat
 rw [← Ny555.out] at ho
 have n0_ := Aside0.mk (Kd.V_afterv (ok := (fun k_ => (P1_4_ k_ ∨ w.heap.size ≤ k_) ∧ some k_ ≠ (.slice Ao13 t543.length co13 : Value).ownBlock ∧ some k_ ≠ (.slice Ao19 y549.length co19 : Value).ownBlock ∧ some k_ ≠ (.slice Ao22 t552.length co22 : Value).ownBlock ∧ k_ ≠ gb542)) (by (with_reducible repeat (first | apply Kd.V_alloc | apply Kd.V_drewN | apply Kd.V_drew)); exact Kd.V_mono HO1_4.out (fun _ hk => ⟨⟨hk.1.1, ⟨hk.1.2.1, ⟨hk.1.2.2.2.1, ⟨hk.2, hk.1.2.2.2.2⟩⟩⟩⟩, hk.1.2.2.1⟩)) hg hat)
 have n1_ := Aside0.mk (blk_grown (g := gb542) (o := .cells #[.int .i64 a1_0, .int .i64 a1_1, .int .i64 a1_2, .int .i64 a1_3, .slice A1_4 l1_4.length c1_4, .string a1_5, .string a1_6, .float .f64 a1_7] 25 (0, 0)) (by (with_reducible repeat (first | refine blk_drewN ?_ _ | refine blk_drew ?_ | refine blk_alloc ?_ _)); exact BK542.out) hg (Kd.N_away HO548.out (fun _ hk => hk.1.2.2.2)))
 have n2_ := Aside0.mk (Kd.N_afterv (ok := (fun k_ => (P1_4_ k_ ∨ w.heap.size ≤ k_) ∧ some k_ ≠ (.slice Ao19 y549.length co19 : Value).ownBlock ∧ some k_ ≠ (.slice Ao22 t552.length co22 : Value).ownBlock ∧ k_ ≠ gb542)) (by (with_reducible repeat (first | apply Kd.N_alloc | apply Kd.N_drewN | apply Kd.N_drew)); exact Kd.N_mono HO545.out (fun _ hk => ⟨⟨hk.1.1, ⟨hk.1.2.2.1, ⟨hk.2, hk.1.2.2.2⟩⟩⟩, hk.1.2.1⟩)) hg hat)
 have n3_ := Aside0.mk (Kd.N_afterv (ok := (fun k_ => (P1_4_ k_ ∨ w.heap.size ≤ k_) ∧ some k_ ≠ (.slice Ao13 t543.length co13 : Value).ownBlock ∧ some k_ ≠ (.slice Ao22 t552.length co22 : Value).ownBlock ∧ k_ ≠ gb542)) (by (with_reducible repeat (first | apply Kd.N_alloc | apply Kd.N_drewN | apply Kd.N_drew)); exact Kd.N_mono HO551.out (fun _ hk => ⟨⟨hk.1.1, ⟨hk.1.2.1, ⟨hk.2, hk.1.2.2.2⟩⟩⟩, hk.1.2.2.1⟩)) hg hat)
 have n4_ := Aside0.mk (Kd.N_afterv (ok := (fun k_ => (P1_4_ k_ ∨ w.heap.size ≤ k_) ∧ some k_ ≠ (.slice Ao13 t543.length co13 : Value).ownBlock ∧ some k_ ≠ (.slice Ao19 y549.length co19 : Value).ownBlock ∧ k_ ≠ gb542)) (by (with_reducible repeat (first | apply Kd.N_alloc | apply Kd.N_drewN | apply Kd.N_drew)); exact Kd.N_mono HO554.out (fun _ hk => ⟨⟨hk.1, ⟨hk.2.1, ⟨hk.2.2.2.1, hk.2.2.2.2⟩⟩⟩, hk.2.2.1⟩)) hg hat)
 have n5_ := Aside0.mk (hb)
 have n6_ := Aside0.mk (ho)
 clear HO1_4
 clear BK542
 clear HO545
 clear HO551
 clear HO554
 clear HB
 clear HO548
 have HO1_4 := n0_
 have BK542 := n1_
 have HO545 := n2_
 have HO551 := n3_
 have HO554 := n4_
 have HB := n5_
 have HO557 := n6_
 clear n0_ n1_ n2_ n3_ n4_ n5_ n6_
 clear ho hb hg hat
 refine hK.out _ _ ⟨(blk_cell BK542.out 0).trans rfl, (blk_cell BK542.out 1).trans rfl, (blk_cell BK542.out 2).trans rfl, (blk_cell BK542.out 3).trans rfl, (blk_cell BK542.out 4).trans rfl, (blk_cell BK542.out 5).trans rfl, (blk_cell BK542.out 6).trans rfl, (blk_cell BK542.out 7).trans rfl⟩ (fun hHeld => ?_)
 clear hK K
 refine sqN 24 ?_
 refine pure_ (i := 6) (N := some 8) (v := ?_) (a' := ?_) (bm 7 127) rfl rfl (by kernel_rfl) (fun _ _ _ h => h) (Or.inl ⟨by rfl, ?_⟩) ?_ ?_
 rotate_left
 ·intro w'
  go_simp
  with_reducible rfl
 rotate_left
 ·simp only [Act.put, List.setIfInBounds_toArray, List.set_cons_zero, List.set_cons_succ, i64_w, i32_w]
  rfl
 refine done_ (by kernel_rfl) ?_
 go_upto_region 5 with (first | ((with_reducible refine gate_callee (f := 21) rfl ?_); refine goesL_ (some 27) rfl rfl Tryz.func21 (by kernel_rfl) rfl #[.slice Ao13 t543.length co13] rfl sqA ?_; (with_reducible refine (table_Check.calls k _ _ t543 t558 t559 _ ?side1 ?side2 A8.out).mono ?_); (case side1 => repeat (first | exact (Kd.N_reads' HO545.out).2.2 | (with_reducible refine Kd.C_alloc ?_ _) | (with_reducible refine Kd.C_drewN ?_ _) | (with_reducible refine Kd.C_drew ?_))); (case side2 => exact (Kd.N_reads' HO545.out).2.1); rintro e w23 ⟨rfl, hb⟩; refine ⟨_, rfl, ?_⟩; have n0_ := Aside0.mk (Kd.V_below (sqV HO1_4.out) hb); have n1_ := Aside0.mk (Kd.N_below (by (with_reducible repeat (first | apply Kd.N_alloc | apply Kd.N_drewN | apply Kd.N_drew)); exact HO545.out) hb); have n2_ := Aside0.mk (Kd.N_below (by (with_reducible repeat (first | apply Kd.N_alloc | apply Kd.N_drewN | apply Kd.N_drew)); exact HO551.out) hb); have n3_ := Aside0.mk (Kd.N_below (by (with_reducible repeat (first | apply Kd.N_alloc | apply Kd.N_drewN | apply Kd.N_drew)); exact HO554.out) hb); have n4_ := Aside0.mk (Kd.N_below (by (with_reducible repeat (first | apply Kd.N_alloc | apply Kd.N_drewN | apply Kd.N_drew)); exact HO557.out) hb); have n5_ := Aside0.mk (blk_below (g := gb542) (o := .cells #[.int .i64 a1_0, .int .i64 a1_1, .int .i64 a1_2, .int .i64 a1_3, .slice A1_4 l1_4.length c1_4, .string a1_5, .string a1_6, .float .f64 a1_7] 25 (0, 0)) (by (with_reducible repeat (first | refine blk_drewN ?_ _ | refine blk_drew ?_ | refine blk_alloc ?_ _)); exact BK542.out) hb); have n6_ := Aside0.mk (below_step (by repeat (first | (with_reducible first | exact HB.out | apply below_alloc | apply pw_below_drewN | apply below_drew1 | refine below_set ?_ GE542.out) | exact HB.out)) hb); clear HO1_4; clear HO545; clear HO551; clear HO554; clear HO557; clear BK542; clear HB; have HO1_4 := n0_; have HO545 := n1_; have HO551 := n2_; have HO554 := n3_; have HO557 := n4_; have BK542 := n5_; have HB := n6_; clear n0_ n1_ n2_ n3_ n4_ n5_ n6_; (try clear hb); (try clear hb2); (try clear hk); (try clear hi); obtain ⟨Ao24, co24, eo24⟩ := Kd.N_slice HO557.out; subst eo24) | ((with_reducible refine gate_callee (f := 21) rfl ?_); refine goesL_ (some 32) rfl rfl Tryz.func21 (by kernel_rfl) rfl #[.slice Ao24 y555.length co24] rfl sqA ?_; (with_reducible refine (table_Check.calls k _ _ y555 t560 t561 _ ?side1 ?side2 A9.out).mono ?_); (case side1 => repeat (first | exact (Kd.N_reads' HO557.out).2.2 | (with_reducible refine Kd.C_alloc ?_ _) | (with_reducible refine Kd.C_drewN ?_ _) | (with_reducible refine Kd.C_drew ?_))); (case side2 => exact (Kd.N_reads' HO557.out).2.1); rintro e w25 ⟨rfl, hb⟩; refine ⟨_, rfl, ?_⟩; have n0_ := Aside0.mk (Kd.V_below (sqV HO1_4.out) hb); have n1_ := Aside0.mk (Kd.N_below (by (with_reducible repeat (first | apply Kd.N_alloc | apply Kd.N_drewN | apply Kd.N_drew)); exact HO545.out) hb); have n2_ := Aside0.mk (Kd.N_below (by (with_reducible repeat (first | apply Kd.N_alloc | apply Kd.N_drewN | apply Kd.N_drew)); exact HO551.out) hb); have n3_ := Aside0.mk (Kd.N_below (by (with_reducible repeat (first | apply Kd.N_alloc | apply Kd.N_drewN | apply Kd.N_drew)); exact HO554.out) hb); have n4_ := Aside0.mk (Kd.N_below (by (with_reducible repeat (first | apply Kd.N_alloc | apply Kd.N_drewN | apply Kd.N_drew)); exact HO557.out) hb); have n5_ := Aside0.mk (blk_below (g := gb542) (o := .cells #[.int .i64 a1_0, .int .i64 a1_1, .int .i64 a1_2, .int .i64 a1_3, .slice A1_4 l1_4.length c1_4, .string a1_5, .string a1_6, .float .f64 a1_7] 25 (0, 0)) (by (with_reducible repeat (first | refine blk_drewN ?_ _ | refine blk_drew ?_ | refine blk_alloc ?_ _)); exact BK542.out) hb); have n6_ := Aside0.mk (below_step (by repeat (first | (with_reducible first | exact HB.out | apply below_alloc | apply pw_below_drewN | apply below_drew1 | refine below_set ?_ GE542.out) | exact HB.out)) hb); clear HO1_4; clear HO545; clear HO551; clear HO554; clear HO557; clear BK542; clear HB; have HO1_4 := n0_; have HO545 := n1_; have HO551 := n2_; have HO554 := n3_; have HO557 := n4_; have BK542 := n5_; have HB := n6_; clear n0_ n1_ n2_ n3_ n4_ n5_ n6_; (try clear hb); (try clear hb2); (try clear hk); (try clear hi)))
 (try simp only [Act.put, List.setIfInBounds_toArray, List.set_cons_zero, List.set_cons_succ])
 go_cut [40] (fun v40 wc => ∃ (kq : Nat) (x40_9 : Bool), v40 = .bool x40_9 ∧ Aside0 (endonymlaw6_TableMore.j0 kq l2 t543 y555 t559 t561 x40_9 = some r) ∧ Aside0 (kq ≤ k) ∧ Aside0 (Kd.N k25 25 wc w.heap.size (fun k_ => (P1_4_ k_ ∨ w.heap.size ≤ k_) ∧ some k_ ≠ ((.slice Ao24 y555.length co24) : Value).ownBlock ∧ k_ ≠ gb542) (.slice Ao13 t543.length co13) t543) ∧ Aside0 (Kd.N k25 25 wc w.heap.size (fun k_ => (P1_4_ k_ ∨ w.heap.size ≤ k_) ∧ some k_ ≠ ((.slice Ao13 t543.length co13) : Value).ownBlock ∧ k_ ≠ gb542) (.slice Ao24 y555.length co24) y555) ∧ Aside0 (Kd.V (Kd.int .i32) 21 wc w.heap.size (fun k_ => (P1_4_ k_ ∨ w.heap.size ≤ k_) ∧ some k_ ≠ ((.slice Ao13 t543.length co13) : Value).ownBlock ∧ some k_ ≠ ((.slice Ao24 y555.length co24) : Value).ownBlock ∧ k_ ≠ gb542) (.slice A1_4 l1_4.length c1_4) l1_4) ∧ Aside0 (wc.heap[gb542]? = some (.cells #[.int .i64 a1_0, .int .i64 a1_1, .int .i64 a1_2, .int .i64 a1_3, (.slice A1_4 l1_4.length c1_4), .string a1_5, .string a1_6, .float .f64 a1_7] 25 (0, 0))) ∧ Aside0 (Below w.heap.size w wc))
 case first =>
  have H := HC10.out
  clear HC10
  by_cases c26 : t559 = 0
  ·rw [if_pos c26] at H
   have c26b0 := beq_iff_eq.mpr c26
   have c26b1 := bne_eq_false_iff_eq.mpr c26
   clear c26
   (first | rw [c26b0] | (simp only [i64_w, i32_w]; rw [c26b0]) | skip)
   have H' := Aside0.mk H
   clear H
   go_wp2
   go_meet
   case rel => exact ⟨_, ((t561 != 0)), sqE, H', ⟨by first | omega | exact Nat.le_refl _⟩, ⟨by (with_reducible repeat (first | apply Kd.N_alloc | apply Kd.N_drewN | apply Kd.N_drew)); exact Kd.N_mono HO545.out (fun _ hk => ⟨hk.1.1, ⟨hk.2, hk.1.2.2.2⟩⟩)⟩, ⟨by (with_reducible repeat (first | apply Kd.N_alloc | apply Kd.N_drewN | apply Kd.N_drew)); exact Kd.N_mono HO557.out (fun _ hk => ⟨hk.1, ⟨hk.2.1, hk.2.2.2⟩⟩)⟩, ⟨by (with_reducible repeat (first | apply Kd.V_alloc | apply Kd.V_drewN | apply Kd.V_drew)); exact Kd.V_mono HO1_4.out (fun _ hk => ⟨hk.1.1, ⟨hk.1.2.1, ⟨hk.2, hk.1.2.2.2.2⟩⟩⟩)⟩, ⟨by (with_reducible repeat (first | refine blk_drewN ?_ _ | refine blk_drew ?_ | refine blk_alloc ?_ _)); exact BK542.out⟩, ⟨by repeat (first | (with_reducible first | exact HB.out | apply below_alloc | apply pw_below_drewN | apply below_drew1 | refine below_set ?_ GE542.out) | exact HB.out)⟩⟩
  rw [if_neg c26] at H
  have c26b0 := beq_eq_false_iff_ne.mpr c26
  have c26b1 := bne_iff_ne.mpr c26
  (first | rw [c26b0] | (simp only [i64_w, i32_w]; rw [c26b0]) | skip)
  have H' := Aside0.mk H
  clear H
  go_wp2
  go_meet
  case rel => exact ⟨_, (true), sqE, H', ⟨by first | omega | exact Nat.le_refl _⟩, ⟨by (with_reducible repeat (first | apply Kd.N_alloc | apply Kd.N_drewN | apply Kd.N_drew)); exact Kd.N_mono HO545.out (fun _ hk => ⟨hk.1.1, ⟨hk.2, hk.1.2.2.2⟩⟩)⟩, ⟨by (with_reducible repeat (first | apply Kd.N_alloc | apply Kd.N_drewN | apply Kd.N_drew)); exact Kd.N_mono HO557.out (fun _ hk => ⟨hk.1, ⟨hk.2.1, hk.2.2.2⟩⟩)⟩, ⟨by (with_reducible repeat (first | apply Kd.V_alloc | apply Kd.V_drewN | apply Kd.V_drew)); exact Kd.V_mono HO1_4.out (fun _ hk => ⟨hk.1.1, ⟨hk.1.2.1, ⟨hk.2, hk.1.2.2.2.2⟩⟩⟩)⟩, ⟨by (with_reducible repeat (first | refine blk_drewN ?_ _ | refine blk_drew ?_ | refine blk_alloc ?_ _)); exact BK542.out⟩, ⟨by repeat (first | (with_reducible first | exact HB.out | apply below_alloc | apply pw_below_drewN | apply below_drew1 | refine below_set ?_ GE542.out) | exact HB.out)⟩⟩
 case rest =>
  clear HC10
  try clear c1
  try clear c2
  try clear p2
  try clear c7
  try clear c8
  try clear c12
  try clear c14
  try clear c21
  try clear c26
  try clear c26b0
  try clear c26b1
  obtain ⟨kq, x40_9, rfl, HA, HJ9, HO_7, HO_8, HO_543004, BK542, HB⟩ := hcut
  cases kq with
  | zero => exact absurd HA.out (by simp [endonymlaw6_TableMore.j0])
  | succ kj9 =>
   have H := HA.out
   clear HA
   simp only [endonymlaw6_TableMore.j0] at H
   by_cases c27 : x40_9 = true
   ·subst c27
    have H1 : ((endonymlaw6_told.f).bind fun t562 => (if t562 = true then (if t559 = 0 then (some true) else (some (t561 != 0))) else (some false))) = some r := by rw [if_pos rfl] at H; exact H
    clear H
    have H := H1
    clear H1
    obtain ⟨t562, A28, H⟩ := sqO H
    try dsimp only at H
    by_cases c29 : t562 = true
    case neg =>
     replace c29 := Bool.eq_false_iff.mpr c29
     subst c29
     have H1 : (some false) = some r := by rw [if_neg (show ¬ (false = true) by decide)] at H; exact H
     clear H
     have H := H1
     clear H1
     obtain rfl := Option.some.inj H
     go_wp2_with (first | ((with_reducible refine gate_callee (f := 18) rfl ?_); refine goesL_ (some 41) rfl rfl Tryz.func18 (by kernel_rfl) rfl #[] rfl sqA ?_; (with_reducible refine (endonymlaw6_told.calls  false _ ⟨htab.out.below sqB⟩ A28.out).mono ?_); rintro e w33 ⟨rfl, hb⟩; refine ⟨_, rfl, ?_⟩; have n0_ := Aside0.mk (Kd.N_below (by (with_reducible repeat (first | apply Kd.N_alloc | apply Kd.N_drewN | apply Kd.N_drew)); exact HO_7.out) hb); have n1_ := Aside0.mk (Kd.N_below (by (with_reducible repeat (first | apply Kd.N_alloc | apply Kd.N_drewN | apply Kd.N_drew)); exact HO_8.out) hb); have n2_ := Aside0.mk (Kd.V_below (sqV HO_543004.out) hb); have n3_ := Aside0.mk (blk_below (g := gb542) (o := .cells #[.int .i64 a1_0, .int .i64 a1_1, .int .i64 a1_2, .int .i64 a1_3, .slice A1_4 l1_4.length c1_4, .string a1_5, .string a1_6, .float .f64 a1_7] 25 (0, 0)) (by (with_reducible repeat (first | refine blk_drewN ?_ _ | refine blk_drew ?_ | refine blk_alloc ?_ _)); exact BK542.out) hb); have n4_ := Aside0.mk (below_step (by repeat (first | (with_reducible first | exact HB.out | apply below_alloc | apply pw_below_drewN | apply below_drew1 | refine below_set ?_ GE542.out) | exact HB.out)) hb); clear HO_7; clear HO_8; clear HO_543004; clear BK542; clear HB; have HO_7 := n0_; have HO_8 := n1_; have HO_543004 := n2_; have BK542 := n3_; have HB := n4_; clear n0_ n1_ n2_ n3_ n4_; (try clear hb); (try clear hb2); (try clear hk); (try clear hi)))
     go_ret
     exact ⟨sqE', by repeat (first | (with_reducible first | exact HB.out | apply below_alloc | apply pw_below_drewN | apply below_drew1 | refine below_set ?_ GE542.out) | exact HB.out)⟩
    subst c29
    have H1 : (if t559 = 0 then (some true) else (some (t561 != 0))) = some r := by rw [if_pos rfl] at H; exact H
    clear H
    have H := H1
    clear H1
    by_cases c30 : t559 = 0
    ·rw [if_pos c30] at H
     have c30b0 := beq_iff_eq.mpr c30
     have c30b1 := bne_eq_false_iff_eq.mpr c30
     clear c30
     obtain rfl := Option.some.inj H
     go_wp2_with (first | ((with_reducible refine gate_callee (f := 18) rfl ?_); refine goesL_ (some 41) rfl rfl Tryz.func18 (by kernel_rfl) rfl #[] rfl sqA ?_; (with_reducible refine (endonymlaw6_told.calls  true _ ⟨htab.out.below sqB⟩ A28.out).mono ?_); rintro e w31 ⟨rfl, hb⟩; refine ⟨_, rfl, ?_⟩; have n0_ := Aside0.mk (Kd.N_below (by (with_reducible repeat (first | apply Kd.N_alloc | apply Kd.N_drewN | apply Kd.N_drew)); exact HO_7.out) hb); have n1_ := Aside0.mk (Kd.N_below (by (with_reducible repeat (first | apply Kd.N_alloc | apply Kd.N_drewN | apply Kd.N_drew)); exact HO_8.out) hb); have n2_ := Aside0.mk (Kd.V_below (sqV HO_543004.out) hb); have n3_ := Aside0.mk (blk_below (g := gb542) (o := .cells #[.int .i64 a1_0, .int .i64 a1_1, .int .i64 a1_2, .int .i64 a1_3, .slice A1_4 l1_4.length c1_4, .string a1_5, .string a1_6, .float .f64 a1_7] 25 (0, 0)) (by (with_reducible repeat (first | refine blk_drewN ?_ _ | refine blk_drew ?_ | refine blk_alloc ?_ _)); exact BK542.out) hb); have n4_ := Aside0.mk (below_step (by repeat (first | (with_reducible first | exact HB.out | apply below_alloc | apply pw_below_drewN | apply below_drew1 | refine below_set ?_ GE542.out) | exact HB.out)) hb); clear HO_7; clear HO_8; clear HO_543004; clear BK542; clear HB; have HO_7 := n0_; have HO_8 := n1_; have HO_543004 := n2_; have BK542 := n3_; have HB := n4_; clear n0_ n1_ n2_ n3_ n4_; (try clear hb); (try clear hb2); (try clear hk); (try clear hi)))
     go_ret
     exact ⟨sqE', by repeat (first | (with_reducible first | exact HB.out | apply below_alloc | apply pw_below_drewN | apply below_drew1 | refine below_set ?_ GE542.out) | exact HB.out)⟩
    rw [if_neg c30] at H
    have c30b0 := beq_eq_false_iff_ne.mpr c30
    have c30b1 := bne_iff_ne.mpr c30
    obtain rfl := Option.some.inj H
    go_wp2_with (first | ((with_reducible refine gate_callee (f := 18) rfl ?_); refine goesL_ (some 41) rfl rfl Tryz.func18 (by kernel_rfl) rfl #[] rfl sqA ?_; (with_reducible refine (endonymlaw6_told.calls  true _ ⟨htab.out.below sqB⟩ A28.out).mono ?_); rintro e w32 ⟨rfl, hb⟩; refine ⟨_, rfl, ?_⟩; have n0_ := Aside0.mk (Kd.N_below (by (with_reducible repeat (first | apply Kd.N_alloc | apply Kd.N_drewN | apply Kd.N_drew)); exact HO_7.out) hb); have n1_ := Aside0.mk (Kd.N_below (by (with_reducible repeat (first | apply Kd.N_alloc | apply Kd.N_drewN | apply Kd.N_drew)); exact HO_8.out) hb); have n2_ := Aside0.mk (Kd.V_below (sqV HO_543004.out) hb); have n3_ := Aside0.mk (blk_below (g := gb542) (o := .cells #[.int .i64 a1_0, .int .i64 a1_1, .int .i64 a1_2, .int .i64 a1_3, .slice A1_4 l1_4.length c1_4, .string a1_5, .string a1_6, .float .f64 a1_7] 25 (0, 0)) (by (with_reducible repeat (first | refine blk_drewN ?_ _ | refine blk_drew ?_ | refine blk_alloc ?_ _)); exact BK542.out) hb); have n4_ := Aside0.mk (below_step (by repeat (first | (with_reducible first | exact HB.out | apply below_alloc | apply pw_below_drewN | apply below_drew1 | refine below_set ?_ GE542.out) | exact HB.out)) hb); clear HO_7; clear HO_8; clear HO_543004; clear BK542; clear HB; have HO_7 := n0_; have HO_8 := n1_; have HO_543004 := n2_; have BK542 := n3_; have HB := n4_; clear n0_ n1_ n2_ n3_ n4_; (try clear hb); (try clear hb2); (try clear hk); (try clear hi)))
    go_ret
    exact ⟨sqE', by repeat (first | (with_reducible first | exact HB.out | apply below_alloc | apply pw_below_drewN | apply below_drew1 | refine below_set ?_ GE542.out) | exact HB.out)⟩
   replace c27 := Bool.eq_false_iff.mpr c27
   subst c27
   have H1 : (endonymlaw6_TableMore.l0 kj9 l2 t543 y555 0) = some r := by rw [if_neg (show ¬ (false = true) by decide)] at H; exact H
   clear H
   have H := H1
   clear H1
   have H' := Aside0.mk H
   clear H
   go_wp2
   go_loopg [13] kj9 (fun kq v13 w' => ∃ (x13_2 : Int), v13 = .int .i64 x13_2 ∧ Aside0 (endonymlaw6_TableMore.l0 kq l2 t543 y555 x13_2 = some r) ∧ Aside0 (kq ≤ kj9) ∧ Aside0 (Kd.N k25 25 w' w.heap.size (fun k_ => (P1_4_ k_ ∨ w.heap.size ≤ k_) ∧ some k_ ≠ ((.slice Ao24 y555.length co24) : Value).ownBlock ∧ k_ ≠ gb542) (.slice Ao13 t543.length co13) t543) ∧ Aside0 (Kd.N k25 25 w' w.heap.size (fun k_ => (P1_4_ k_ ∨ w.heap.size ≤ k_) ∧ some k_ ≠ ((.slice Ao13 t543.length co13) : Value).ownBlock ∧ k_ ≠ gb542) (.slice Ao24 y555.length co24) y555) ∧ Aside0 (Kd.V (Kd.int .i32) 21 w' w.heap.size (fun k_ => (P1_4_ k_ ∨ w.heap.size ≤ k_) ∧ some k_ ≠ ((.slice Ao13 t543.length co13) : Value).ownBlock ∧ some k_ ≠ ((.slice Ao24 y555.length co24) : Value).ownBlock ∧ k_ ≠ gb542) (.slice A1_4 l1_4.length c1_4) l1_4) ∧ Aside0 (w'.heap[gb542]? = some (.cells #[.int .i64 a1_0, .int .i64 a1_1, .int .i64 a1_2, .int .i64 a1_3, (.slice A1_4 l1_4.length c1_4), .string a1_5, .string a1_6, .float .f64 a1_7] 25 (0, 0))) ∧ Aside0 (Below w.heap.size w w'))
   case atStart => exact ⟨(0), sqE, H', ⟨Nat.le_refl _⟩, ⟨by (with_reducible repeat (first | apply Kd.N_alloc | apply Kd.N_drewN | apply Kd.N_drew)); exact HO_7.out⟩, ⟨by (with_reducible repeat (first | apply Kd.N_alloc | apply Kd.N_drewN | apply Kd.N_drew)); exact HO_8.out⟩, ⟨sqV HO_543004.out⟩, ⟨by (with_reducible repeat (first | refine blk_drewN ?_ _ | refine blk_drew ?_ | refine blk_alloc ?_ _)); exact BK542.out⟩, ⟨by repeat (first | (with_reducible first | exact HB.out | apply below_alloc | apply pw_below_drewN | apply below_drew1 | refine below_set ?_ GE542.out) | exact HB.out)⟩⟩
   case round =>
    clear H'
    try clear c1
    try clear c2
    try clear p2
    try clear c3
    try clear c7
    try clear c8
    try clear c12
    try clear c14
    try clear c18
    try clear c21
    try clear c26
    try clear c26b0
    try clear c26b1
    try clear c27
    try clear c29
    try clear c30
    try clear c30b0
    try clear c30b1
    try clear p2
    obtain ⟨x13_2, rfl, HA, HK2, HO_7, HO_8, HO_543004, BK542, HB⟩ := hrel
    cases gk with
    | zero => exact absurd HA.out (by simp [endonymlaw6_TableMore.l0])
    | succ k2 =>
     have H := HA.out
     clear HA
     simp only [endonymlaw6_TableMore.l0] at H
     have HC34 := Aside0.mk H
     clear H
     go_upto_region 8 with (fail)
     go_cut [57] (fun v57 wc => ∃ (kq : Nat) (x57_33 : Bool), v57 = .bool x57_33 ∧ Aside0 (endonymlaw6_TableMore.j2 kq l2 t543 y555 x13_2 x57_33 = some r) ∧ Aside0 (kq ≤ k2) ∧ Aside0 (Kd.N k25 25 wc w.heap.size (fun k_ => (P1_4_ k_ ∨ w.heap.size ≤ k_) ∧ some k_ ≠ ((.slice Ao24 y555.length co24) : Value).ownBlock ∧ k_ ≠ gb542) (.slice Ao13 t543.length co13) t543) ∧ Aside0 (Kd.N k25 25 wc w.heap.size (fun k_ => (P1_4_ k_ ∨ w.heap.size ≤ k_) ∧ some k_ ≠ ((.slice Ao13 t543.length co13) : Value).ownBlock ∧ k_ ≠ gb542) (.slice Ao24 y555.length co24) y555) ∧ Aside0 (Kd.V (Kd.int .i32) 21 wc w.heap.size (fun k_ => (P1_4_ k_ ∨ w.heap.size ≤ k_) ∧ some k_ ≠ ((.slice Ao13 t543.length co13) : Value).ownBlock ∧ some k_ ≠ ((.slice Ao24 y555.length co24) : Value).ownBlock ∧ k_ ≠ gb542) (.slice A1_4 l1_4.length c1_4) l1_4) ∧ Aside0 (wc.heap[gb542]? = some (.cells #[.int .i64 a1_0, .int .i64 a1_1, .int .i64 a1_2, .int .i64 a1_3, (.slice A1_4 l1_4.length c1_4), .string a1_5, .string a1_6, .float .f64 a1_7] 25 (0, 0))) ∧ Aside0 (Below w.heap.size w wc))
     case first =>
      have H := HC34.out
      clear HC34
      by_cases c35 : x13_2 < (l2.length : Int)
      ·rw [if_pos c35] at H
       have c35b0 := decide_eq_true c35
       clear c35
       (first | rw [c35b0] | (simp only [i64_w, i32_w]; rw [c35b0]) | skip)
       have H' := Aside0.mk H
       clear H
       go_wp2
       go_meet
       case rel => exact ⟨_, (decide (x13_2 < 40)), sqE, H', ⟨by have := HJ9.out; have := HK2.out; first | omega | exact Nat.le_refl _⟩, ⟨by (with_reducible repeat (first | apply Kd.N_alloc | apply Kd.N_drewN | apply Kd.N_drew)); exact HO_7.out⟩, ⟨by (with_reducible repeat (first | apply Kd.N_alloc | apply Kd.N_drewN | apply Kd.N_drew)); exact HO_8.out⟩, ⟨sqV HO_543004.out⟩, ⟨by (with_reducible repeat (first | refine blk_drewN ?_ _ | refine blk_drew ?_ | refine blk_alloc ?_ _)); exact BK542.out⟩, ⟨by repeat (first | (with_reducible first | exact HB.out | apply below_alloc | apply pw_below_drewN | apply below_drew1 | refine below_set ?_ GE542.out) | exact HB.out)⟩⟩
      rw [if_neg c35] at H
      have c35b0 := decide_eq_false c35
      clear c35
      (first | rw [c35b0] | (simp only [i64_w, i32_w]; rw [c35b0]) | skip)
      have H' := Aside0.mk H
      clear H
      go_wp2
      go_meet
      case rel => exact ⟨_, (false), sqE, H', ⟨by have := HJ9.out; have := HK2.out; first | omega | exact Nat.le_refl _⟩, ⟨by (with_reducible repeat (first | apply Kd.N_alloc | apply Kd.N_drewN | apply Kd.N_drew)); exact HO_7.out⟩, ⟨by (with_reducible repeat (first | apply Kd.N_alloc | apply Kd.N_drewN | apply Kd.N_drew)); exact HO_8.out⟩, ⟨sqV HO_543004.out⟩, ⟨by (with_reducible repeat (first | refine blk_drewN ?_ _ | refine blk_drew ?_ | refine blk_alloc ?_ _)); exact BK542.out⟩, ⟨by repeat (first | (with_reducible first | exact HB.out | apply below_alloc | apply pw_below_drewN | apply below_drew1 | refine below_set ?_ GE542.out) | exact HB.out)⟩⟩
     case rest =>
      clear HC34
      try clear c1
      try clear c2
      try clear p2
      try clear c3
      try clear c7
      try clear c8
      try clear c12
      try clear c14
      try clear c18
      try clear c21
      try clear c26
      try clear c26b0
      try clear c26b1
      try clear c27
      try clear c29
      try clear c30
      try clear c30b0
      try clear c30b1
      try clear c35
      try clear c35b0
      try clear p2
      obtain ⟨kq, x57_33, rfl, HA, HJ33, HO_7, HO_8, HO_543004, BK542, HB⟩ := hcut
      cases kq with
      | zero => exact absurd HA.out (by simp [endonymlaw6_TableMore.j2])
      | succ kj33 =>
       have H := HA.out
       clear HA
       simp only [endonymlaw6_TableMore.j2] at H
       by_cases c36 : x57_33 = true
       case neg =>
        replace c36 := Bool.eq_false_iff.mpr c36
        subst c36
        have H1 : ((endonymlaw6_told.f).bind fun t563 => (some t563)) = some r := by rw [if_neg (show ¬ (false = true) by decide)] at H; exact H
        clear H
        have H := H1
        clear H1
        obtain ⟨t563, A77, H⟩ := sqO H
        try dsimp only at H
        obtain rfl := Option.some.inj H
        go_wp2_with (first | ((with_reducible refine gate_callee (f := 18) rfl ?_); refine goesL_ (some 99) rfl rfl Tryz.func18 (by kernel_rfl) rfl #[] rfl sqA ?_; (with_reducible refine (endonymlaw6_told.calls  t563 _ ⟨htab.out.below sqB⟩ A77.out).mono ?_); rintro e w78 ⟨rfl, hb⟩; refine ⟨_, rfl, ?_⟩; have n0_ := Aside0.mk (Kd.N_below (by (with_reducible repeat (first | apply Kd.N_alloc | apply Kd.N_drewN | apply Kd.N_drew)); exact HO_7.out) hb); have n1_ := Aside0.mk (Kd.N_below (by (with_reducible repeat (first | apply Kd.N_alloc | apply Kd.N_drewN | apply Kd.N_drew)); exact HO_8.out) hb); have n2_ := Aside0.mk (Kd.V_below (sqV HO_543004.out) hb); have n3_ := Aside0.mk (blk_below (g := gb542) (o := .cells #[.int .i64 a1_0, .int .i64 a1_1, .int .i64 a1_2, .int .i64 a1_3, .slice A1_4 l1_4.length c1_4, .string a1_5, .string a1_6, .float .f64 a1_7] 25 (0, 0)) (by (with_reducible repeat (first | refine blk_drewN ?_ _ | refine blk_drew ?_ | refine blk_alloc ?_ _)); exact BK542.out) hb); have n4_ := Aside0.mk (below_step (by repeat (first | (with_reducible first | exact HB.out | apply below_alloc | apply pw_below_drewN | apply below_drew1 | refine below_set ?_ GE542.out) | exact HB.out)) hb); clear HO_7; clear HO_8; clear HO_543004; clear BK542; clear HB; have HO_7 := n0_; have HO_8 := n1_; have HO_543004 := n2_; have BK542 := n3_; have HB := n4_; clear n0_ n1_ n2_ n3_ n4_; (try clear hb); (try clear hb2); (try clear hk); (try clear hi)))
        go_ret
        exact ⟨sqE', by repeat (first | (with_reducible first | exact HB.out | apply below_alloc | apply pw_below_drewN | apply below_drew1 | refine below_set ?_ GE542.out) | exact HB.out)⟩
       subst c36
       have H1 : (endonymlaw6_TableMore.l1 kj33 l2 t543 y555 x13_2 1) = some r := by rw [if_pos rfl] at H; exact H
       clear H
       have H := H1
       clear H1
       have H' := Aside0.mk H
       clear H
       go_wp2
       go_loopg [14] kj33 (fun kq v14 w' => ∃ (x14_4 : Int), v14 = .int .i64 x14_4 ∧ Aside0 (endonymlaw6_TableMore.l1 kq l2 t543 y555 x13_2 x14_4 = some r) ∧ Aside0 (kq ≤ kj33) ∧ Aside0 (Kd.N k25 25 w' w.heap.size (fun k_ => (P1_4_ k_ ∨ w.heap.size ≤ k_) ∧ some k_ ≠ ((.slice Ao24 y555.length co24) : Value).ownBlock ∧ k_ ≠ gb542) (.slice Ao13 t543.length co13) t543) ∧ Aside0 (Kd.N k25 25 w' w.heap.size (fun k_ => (P1_4_ k_ ∨ w.heap.size ≤ k_) ∧ some k_ ≠ ((.slice Ao13 t543.length co13) : Value).ownBlock ∧ k_ ≠ gb542) (.slice Ao24 y555.length co24) y555) ∧ Aside0 (Kd.V (Kd.int .i32) 21 w' w.heap.size (fun k_ => (P1_4_ k_ ∨ w.heap.size ≤ k_) ∧ some k_ ≠ ((.slice Ao13 t543.length co13) : Value).ownBlock ∧ some k_ ≠ ((.slice Ao24 y555.length co24) : Value).ownBlock ∧ k_ ≠ gb542) (.slice A1_4 l1_4.length c1_4) l1_4) ∧ Aside0 (w'.heap[gb542]? = some (.cells #[.int .i64 a1_0, .int .i64 a1_1, .int .i64 a1_2, .int .i64 a1_3, (.slice A1_4 l1_4.length c1_4), .string a1_5, .string a1_6, .float .f64 a1_7] 25 (0, 0))) ∧ Aside0 (Below w.heap.size w w'))
       case atStart => exact ⟨(1), sqE, H', ⟨Nat.le_refl _⟩, ⟨by (with_reducible repeat (first | apply Kd.N_alloc | apply Kd.N_drewN | apply Kd.N_drew)); exact HO_7.out⟩, ⟨by (with_reducible repeat (first | apply Kd.N_alloc | apply Kd.N_drewN | apply Kd.N_drew)); exact HO_8.out⟩, ⟨sqV HO_543004.out⟩, ⟨by (with_reducible repeat (first | refine blk_drewN ?_ _ | refine blk_drew ?_ | refine blk_alloc ?_ _)); exact BK542.out⟩, ⟨by repeat (first | (with_reducible first | exact HB.out | apply below_alloc | apply pw_below_drewN | apply below_drew1 | refine below_set ?_ GE542.out) | exact HB.out)⟩⟩
       case round =>
        clear H'
        try clear c1
        try clear c2
        try clear p2
        try clear c3
        try clear c7
        try clear c8
        try clear c12
        try clear c14
        try clear c18
        try clear c21
        try clear c26
        try clear c26b0
        try clear c26b1
        try clear c27
        try clear c29
        try clear c30
        try clear c30b0
        try clear c30b1
        try clear c35
        try clear c35b0
        try clear c36
        try clear p2
        obtain ⟨x14_4, rfl, HA, HK4, HO_7, HO_8, HO_543004, BK542, HB⟩ := hrel
        cases gk with
        | zero => exact absurd HA.out (by simp [endonymlaw6_TableMore.l1])
        | succ k4 =>
         have H := HA.out
         clear HA
         simp only [endonymlaw6_TableMore.l1] at H
         by_cases c37 : x14_4 ≤ 9
         case neg =>
          rw [if_neg c37] at H
          have c37b0 := decide_eq_false c37
          clear c37
          have H' := Aside0.mk H
          clear H
          go_wp2
          go_roundg k4
          case measure => have := HJ9.out; have := HK2.out; have := HJ33.out; have := HK4.out; omega
          case rel => exact ⟨(wrap64 (x13_2 + 1)), sqE, H', ⟨by have := HJ9.out; have := HK2.out; have := HJ33.out; have := HK4.out; omega⟩, ⟨by (with_reducible repeat (first | apply Kd.N_alloc | apply Kd.N_drewN | apply Kd.N_drew)); exact HO_7.out⟩, ⟨by (with_reducible repeat (first | apply Kd.N_alloc | apply Kd.N_drewN | apply Kd.N_drew)); exact HO_8.out⟩, ⟨sqV HO_543004.out⟩, ⟨by (with_reducible repeat (first | refine blk_drewN ?_ _ | refine blk_drew ?_ | refine blk_alloc ?_ _)); exact BK542.out⟩, ⟨by repeat (first | (with_reducible first | exact HB.out | apply below_alloc | apply pw_below_drewN | apply below_drew1 | refine below_set ?_ GE542.out) | exact HB.out)⟩⟩
         rw [if_pos c37] at H
         have c37b0 := decide_eq_true c37
         clear c37
         by_cases c38 : 0 ≤ x13_2
         case neg => rw [if_neg c38] at H; exact absurd H (by simp)
         rw [if_pos c38] at H
         have c38b0 := decide_eq_true c38
         clear c38
         by_cases c39 : x13_2 < (l2.length : Int)
         case neg => rw [if_neg c39] at H; exact absurd H (by simp)
         rw [if_pos c39] at H
         have c39b0 := decide_eq_true c39
         clear c39
         obtain ⟨t565, A40, H⟩ := sqO H
         try dsimp only at H
         obtain ⟨t567, A41, H⟩ := sqO H
         try dsimp only at H
         by_cases c42 : t565 ≥ 0
         ·rw [if_pos c42] at H
          have c42b0 := decide_eq_true c42
          clear c42
          by_cases c43 : t567 = t565
          ·rw [if_pos c43] at H
           have c43b0 := beq_iff_eq.mpr c43
           have c43b1 := bne_eq_false_iff_eq.mpr c43
           clear c43
           by_cases c44 : t565 < 0
           ·rw [if_pos c44] at H
            have c44b0 := decide_eq_true c44
            clear c44
            by_cases c45 : t567 ≥ 0
            ·rw [if_pos c45] at H
             have c45b0 := decide_eq_true c45
             clear c45
             by_cases c46 : t567 = (t543.length : Int)
             ·rw [if_pos c46] at H
              have c46b0 := beq_iff_eq.mpr c46
              have c46b1 := bne_eq_false_iff_eq.mpr c46
              clear c46
              have H' := Aside0.mk H
              clear H
              try go_wp2
              have n0_ := Aside0.mk (Kd.N_drew HO_7.out)
              have n1_ := Aside0.mk (Kd.N_drew HO_8.out)
              have n2_ := Aside0.mk (Kd.V_drew HO_543004.out)
              have n3_ := Aside0.mk (blk_drew BK542.out)
              have n4_ := Aside0.mk (below_drew1 HB.out)
              clear HO_7
              clear HO_8
              clear HO_543004
              clear BK542
              clear HB
              have HO_7 := n0_
              have HO_8 := n1_
              have HO_543004 := n2_
              have BK542 := n3_
              have HB := n4_
              clear n0_ n1_ n2_ n3_ n4_
              have p564 : 0 ≤ (x13_2 : Int) := sqD
              have q564 : x13_2 < (l2.length : Int) := sqD
              obtain ⟨ad564, e564, hx564_0⟩ := Kd.at_int HR2.out x13_2 p564 q564
              have hw564_0 := hx564_0
              cases e564
              replace hx564_0 := (HB.out.cell (World.block_lt_of_cell? w _ hx564_0)).trans hx564_0
              replace p564 := eq_true p564
              replace q564 := eq_true q564
              have p566 : 0 ≤ (x13_2 : Int) := sqD
              have q566 : x13_2 < (l2.length : Int) := sqD
              obtain ⟨ad566, e566, hx566_0⟩ := Kd.at_int HR2.out x13_2 p566 q566
              have hw566_0 := hx566_0
              obtain rfl : ad564 = ad566 := (by injection e566)
              replace hx566_0 := (HB.out.cell (World.block_lt_of_cell? w _ hx566_0)).trans hx566_0
              replace p566 := eq_true p566
              replace q566 := eq_true q566
              refine start_ (n := 16) (S := fun w' => w'.cell? (ad564.add (x13_2).toNat) = some (.int .i32 (rd l2 x13_2)) ∧ w'.cell? (ad564.add (x13_2).toNat) = some (.int .i32 (rd l2 x13_2))) (ds := []) (bm 16 0) (by kernel_rfl) rfl rfl ⟨((HB.out.cell (World.block_lt_of_cell? w _ hw564_0)).trans hw564_0), ((HB.out.cell (World.block_lt_of_cell? w _ hw566_0)).trans hw566_0)⟩ (fun hHeld => ?_); refine with_tabW endonymlaw6_TableMore.tab13 endonymlaw6_TableMore.bits13 (fun HT_ HW_ => ?_)
              generalize wr.drew = w47 at HO_7 HO_8 HO_543004 BK542 HB hx564_0 hx566_0 hHeld ⊢
              refine sqP 0 (some 64) (bm 16 1) ?_
              refine sqP 1 (some 65) (bm 16 3) ?_
              refine sqP 2 (some 66) (bm 16 7) ?_
              refine sqP 3 (some 67) (bm 16 15) ?_
              refine sqP 4 (some 68) (bm 16 31) ?_
              refine sqP 7 (some 71) (bm 16 159) ?_
              refine sqP 8 (some 72) (bm 16 415) ?_
              refine sqP 9 (some 73) (bm 16 927) ?_
              refine sqP 10 (some 74) (bm 16 1951) ?_
              refine sqP 11 (some 75) (bm 16 3999) ?_
              refine sqT 5 (some 69) (bm 16 4031) ?_
              refine sqT 12 (some 76) (bm 16 8127) ?_
              refine sqI 6 (some 70) (bm 16 8191) (fun K hK => ?_)
              refine goes_ Tryz.func30 (by kernel_rfl) rfl #[.slice Ao13 t543.length co13, .int .i64 x14_4, .int .i32 (rd l2 x13_2)] (by rfl) rfl rfl sqA ?_
              with_reducible refine (table_Find.calls k4 _ _ t543 x14_4 (rd l2 x13_2) t565 _ ?side1 ?side2 A40.out).mono ?_
              (case side1 => repeat (first | exact (Kd.N_reads' HO_7.out).2.2 | (with_reducible refine Kd.C_alloc ?_ _) | (with_reducible refine Kd.C_drewN ?_ _) | (with_reducible refine Kd.C_drew ?_)))
              (case side2 => exact (Kd.N_reads' HO_7.out).2.1)
              rintro e w48 ⟨rfl, hb⟩
              refine ⟨_, rfl, ?_⟩
              have n0_ := Aside0.mk (Kd.N_below (by (with_reducible repeat (first | apply Kd.N_alloc | apply Kd.N_drewN | apply Kd.N_drew)); exact HO_7.out) hb)
              have n1_ := Aside0.mk (Kd.N_below (by (with_reducible repeat (first | apply Kd.N_alloc | apply Kd.N_drewN | apply Kd.N_drew)); exact HO_8.out) hb)
              have n2_ := Aside0.mk (Kd.V_below (sqV HO_543004.out) hb)
              have n3_ := Aside0.mk (blk_below (g := gb542) (o := .cells #[.int .i64 a1_0, .int .i64 a1_1, .int .i64 a1_2, .int .i64 a1_3, .slice A1_4 l1_4.length c1_4, .string a1_5, .string a1_6, .float .f64 a1_7] 25 (0, 0)) (by (with_reducible repeat (first | refine blk_drewN ?_ _ | refine blk_drew ?_ | refine blk_alloc ?_ _)); exact BK542.out) hb)
              have n4_ := Aside0.mk (below_step (by repeat (first | (with_reducible first | exact HB.out | apply below_alloc | apply pw_below_drewN | apply below_drew1 | refine below_set ?_ GE542.out) | exact HB.out)) hb)
              clear HO_7
              clear HO_8
              clear HO_543004
              clear BK542
              clear HB
              have HO_7 := n0_
              have HO_8 := n1_
              have HO_543004 := n2_
              have BK542 := n3_
              have HB := n4_
              clear n0_ n1_ n2_ n3_ n4_
              (try clear hb)
              (try clear hb2)
              (try clear hk)
              (try clear hi)
              refine hK.out _ _ ⟨((HB.out.cell (World.block_lt_of_cell? w _ hw564_0)).trans hw564_0), ((HB.out.cell (World.block_lt_of_cell? w _ hw566_0)).trans hw566_0)⟩ (fun hHeld => ?_)
              clear hK K
              refine sqN 70 ?_
              refine sqI 13 (some 77) (bm 16 16383) (fun K hK => ?_)
              refine goes_ Tryz.func30 (by kernel_rfl) rfl #[.slice Ao24 y555.length co24, .int .i64 x14_4, .int .i32 (rd l2 x13_2)] (by rfl) rfl rfl sqA ?_
              with_reducible refine (table_Find.calls k4 _ _ y555 x14_4 (rd l2 x13_2) t567 _ ?side1 ?side2 A41.out).mono ?_
              (case side1 => repeat (first | exact (Kd.N_reads' HO_8.out).2.2 | (with_reducible refine Kd.C_alloc ?_ _) | (with_reducible refine Kd.C_drewN ?_ _) | (with_reducible refine Kd.C_drew ?_)))
              (case side2 => exact (Kd.N_reads' HO_8.out).2.1)
              rintro e w49 ⟨rfl, hb⟩
              refine ⟨_, rfl, ?_⟩
              have n0_ := Aside0.mk (Kd.N_below (by (with_reducible repeat (first | apply Kd.N_alloc | apply Kd.N_drewN | apply Kd.N_drew)); exact HO_7.out) hb)
              have n1_ := Aside0.mk (Kd.N_below (by (with_reducible repeat (first | apply Kd.N_alloc | apply Kd.N_drewN | apply Kd.N_drew)); exact HO_8.out) hb)
              have n2_ := Aside0.mk (Kd.V_below (sqV HO_543004.out) hb)
              have n3_ := Aside0.mk (blk_below (g := gb542) (o := .cells #[.int .i64 a1_0, .int .i64 a1_1, .int .i64 a1_2, .int .i64 a1_3, .slice A1_4 l1_4.length c1_4, .string a1_5, .string a1_6, .float .f64 a1_7] 25 (0, 0)) (by (with_reducible repeat (first | refine blk_drewN ?_ _ | refine blk_drew ?_ | refine blk_alloc ?_ _)); exact BK542.out) hb)
              have n4_ := Aside0.mk (below_step (by repeat (first | (with_reducible first | exact HB.out | apply below_alloc | apply pw_below_drewN | apply below_drew1 | refine below_set ?_ GE542.out) | exact HB.out)) hb)
              clear HO_7
              clear HO_8
              clear HO_543004
              clear BK542
              clear HB
              have HO_7 := n0_
              have HO_8 := n1_
              have HO_543004 := n2_
              have BK542 := n3_
              have HB := n4_
              clear n0_ n1_ n2_ n3_ n4_
              (try clear hb)
              (try clear hb2)
              (try clear hk)
              (try clear hi)
              refine hK.out _ _ ⟨((HB.out.cell (World.block_lt_of_cell? w _ hw564_0)).trans hw564_0), ((HB.out.cell (World.block_lt_of_cell? w _ hw566_0)).trans hw566_0)⟩ (fun hHeld => ?_)
              clear hK K
              refine sqN 77 ?_
              refine sqP 14 (some 15) (bm 16 32767) ?_
              refine sqP 15 (some 16) (bm 16 65535) ?_
              refine done_ (done_of HT_.out (by kernel_rfl)) ?_
              try go_wp2
              go_roundg k4
              case measure => have := HJ9.out; have := HK2.out; have := HJ33.out; have := HK4.out; omega
              case rel => exact ⟨(wrap64 (x14_4 + 1)), sqE, H', ⟨by have := HJ9.out; have := HK2.out; have := HJ33.out; have := HK4.out; omega⟩, ⟨by (with_reducible repeat (first | apply Kd.N_alloc | apply Kd.N_drewN | apply Kd.N_drew)); exact HO_7.out⟩, ⟨by (with_reducible repeat (first | apply Kd.N_alloc | apply Kd.N_drewN | apply Kd.N_drew)); exact HO_8.out⟩, ⟨sqV HO_543004.out⟩, ⟨by (with_reducible repeat (first | refine blk_drewN ?_ _ | refine blk_drew ?_ | refine blk_alloc ?_ _)); exact BK542.out⟩, ⟨by repeat (first | (with_reducible first | exact HB.out | apply below_alloc | apply pw_below_drewN | apply below_drew1 | refine below_set ?_ GE542.out) | exact HB.out)⟩⟩
             rw [if_neg c46] at H
             have c46b0 := beq_eq_false_iff_ne.mpr c46
             have c46b1 := bne_iff_ne.mpr c46
             obtain rfl := Option.some.inj H
             try go_wp2
             have n0_ := Aside0.mk (Kd.N_drew HO_7.out)
             have n1_ := Aside0.mk (Kd.N_drew HO_8.out)
             have n2_ := Aside0.mk (Kd.V_drew HO_543004.out)
             have n3_ := Aside0.mk (blk_drew BK542.out)
             have n4_ := Aside0.mk (below_drew1 HB.out)
             clear HO_7
             clear HO_8
             clear HO_543004
             clear BK542
             clear HB
             have HO_7 := n0_
             have HO_8 := n1_
             have HO_543004 := n2_
             have BK542 := n3_
             have HB := n4_
             clear n0_ n1_ n2_ n3_ n4_
             have p564 : 0 ≤ (x13_2 : Int) := sqD
             have q564 : x13_2 < (l2.length : Int) := sqD
             obtain ⟨ad564, e564, hx564_0⟩ := Kd.at_int HR2.out x13_2 p564 q564
             have hw564_0 := hx564_0
             cases e564
             replace hx564_0 := (HB.out.cell (World.block_lt_of_cell? w _ hx564_0)).trans hx564_0
             replace p564 := eq_true p564
             replace q564 := eq_true q564
             have p566 : 0 ≤ (x13_2 : Int) := sqD
             have q566 : x13_2 < (l2.length : Int) := sqD
             obtain ⟨ad566, e566, hx566_0⟩ := Kd.at_int HR2.out x13_2 p566 q566
             have hw566_0 := hx566_0
             obtain rfl : ad564 = ad566 := (by injection e566)
             replace hx566_0 := (HB.out.cell (World.block_lt_of_cell? w _ hx566_0)).trans hx566_0
             replace p566 := eq_true p566
             replace q566 := eq_true q566
             refine start_ (n := 16) (S := fun w' => w'.cell? (ad564.add (x13_2).toNat) = some (.int .i32 (rd l2 x13_2)) ∧ w'.cell? (ad564.add (x13_2).toNat) = some (.int .i32 (rd l2 x13_2))) (ds := []) (bm 16 0) (by kernel_rfl) rfl rfl ⟨((HB.out.cell (World.block_lt_of_cell? w _ hw564_0)).trans hw564_0), ((HB.out.cell (World.block_lt_of_cell? w _ hw566_0)).trans hw566_0)⟩ (fun hHeld => ?_); refine with_tabW endonymlaw6_TableMore.tab13 endonymlaw6_TableMore.bits13 (fun HT_ HW_ => ?_)
             generalize wr.drew = w50 at HO_7 HO_8 HO_543004 BK542 HB hx564_0 hx566_0 hHeld ⊢
             refine sqP 0 (some 64) (bm 16 1) ?_
             refine sqP 1 (some 65) (bm 16 3) ?_
             refine sqP 2 (some 66) (bm 16 7) ?_
             refine sqP 3 (some 67) (bm 16 15) ?_
             refine sqP 4 (some 68) (bm 16 31) ?_
             refine sqP 7 (some 71) (bm 16 159) ?_
             refine sqP 8 (some 72) (bm 16 415) ?_
             refine sqP 9 (some 73) (bm 16 927) ?_
             refine sqP 10 (some 74) (bm 16 1951) ?_
             refine sqP 11 (some 75) (bm 16 3999) ?_
             refine sqT 5 (some 69) (bm 16 4031) ?_
             refine sqT 12 (some 76) (bm 16 8127) ?_
             refine sqI 6 (some 70) (bm 16 8191) (fun K hK => ?_)
             refine goes_ Tryz.func30 (by kernel_rfl) rfl #[.slice Ao13 t543.length co13, .int .i64 x14_4, .int .i32 (rd l2 x13_2)] (by rfl) rfl rfl sqA ?_
             with_reducible refine (table_Find.calls k4 _ _ t543 x14_4 (rd l2 x13_2) t565 _ ?side1 ?side2 A40.out).mono ?_
             (case side1 => repeat (first | exact (Kd.N_reads' HO_7.out).2.2 | (with_reducible refine Kd.C_alloc ?_ _) | (with_reducible refine Kd.C_drewN ?_ _) | (with_reducible refine Kd.C_drew ?_)))
             (case side2 => exact (Kd.N_reads' HO_7.out).2.1)
             rintro e w51 ⟨rfl, hb⟩
             refine ⟨_, rfl, ?_⟩
             have n0_ := Aside0.mk (Kd.N_below (by (with_reducible repeat (first | apply Kd.N_alloc | apply Kd.N_drewN | apply Kd.N_drew)); exact HO_7.out) hb)
             have n1_ := Aside0.mk (Kd.N_below (by (with_reducible repeat (first | apply Kd.N_alloc | apply Kd.N_drewN | apply Kd.N_drew)); exact HO_8.out) hb)
             have n2_ := Aside0.mk (Kd.V_below (sqV HO_543004.out) hb)
             have n3_ := Aside0.mk (blk_below (g := gb542) (o := .cells #[.int .i64 a1_0, .int .i64 a1_1, .int .i64 a1_2, .int .i64 a1_3, .slice A1_4 l1_4.length c1_4, .string a1_5, .string a1_6, .float .f64 a1_7] 25 (0, 0)) (by (with_reducible repeat (first | refine blk_drewN ?_ _ | refine blk_drew ?_ | refine blk_alloc ?_ _)); exact BK542.out) hb)
             have n4_ := Aside0.mk (below_step (by repeat (first | (with_reducible first | exact HB.out | apply below_alloc | apply pw_below_drewN | apply below_drew1 | refine below_set ?_ GE542.out) | exact HB.out)) hb)
             clear HO_7
             clear HO_8
             clear HO_543004
             clear BK542
             clear HB
             have HO_7 := n0_
             have HO_8 := n1_
             have HO_543004 := n2_
             have BK542 := n3_
             have HB := n4_
             clear n0_ n1_ n2_ n3_ n4_
             (try clear hb)
             (try clear hb2)
             (try clear hk)
             (try clear hi)
             refine hK.out _ _ ⟨((HB.out.cell (World.block_lt_of_cell? w _ hw564_0)).trans hw564_0), ((HB.out.cell (World.block_lt_of_cell? w _ hw566_0)).trans hw566_0)⟩ (fun hHeld => ?_)
             clear hK K
             refine sqN 70 ?_
             refine sqI 13 (some 77) (bm 16 16383) (fun K hK => ?_)
             refine goes_ Tryz.func30 (by kernel_rfl) rfl #[.slice Ao24 y555.length co24, .int .i64 x14_4, .int .i32 (rd l2 x13_2)] (by rfl) rfl rfl sqA ?_
             with_reducible refine (table_Find.calls k4 _ _ y555 x14_4 (rd l2 x13_2) t567 _ ?side1 ?side2 A41.out).mono ?_
             (case side1 => repeat (first | exact (Kd.N_reads' HO_8.out).2.2 | (with_reducible refine Kd.C_alloc ?_ _) | (with_reducible refine Kd.C_drewN ?_ _) | (with_reducible refine Kd.C_drew ?_)))
             (case side2 => exact (Kd.N_reads' HO_8.out).2.1)
             rintro e w52 ⟨rfl, hb⟩
             refine ⟨_, rfl, ?_⟩
             have n0_ := Aside0.mk (Kd.N_below (by (with_reducible repeat (first | apply Kd.N_alloc | apply Kd.N_drewN | apply Kd.N_drew)); exact HO_7.out) hb)
             have n1_ := Aside0.mk (Kd.N_below (by (with_reducible repeat (first | apply Kd.N_alloc | apply Kd.N_drewN | apply Kd.N_drew)); exact HO_8.out) hb)
             have n2_ := Aside0.mk (Kd.V_below (sqV HO_543004.out) hb)
             have n3_ := Aside0.mk (blk_below (g := gb542) (o := .cells #[.int .i64 a1_0, .int .i64 a1_1, .int .i64 a1_2, .int .i64 a1_3, .slice A1_4 l1_4.length c1_4, .string a1_5, .string a1_6, .float .f64 a1_7] 25 (0, 0)) (by (with_reducible repeat (first | refine blk_drewN ?_ _ | refine blk_drew ?_ | refine blk_alloc ?_ _)); exact BK542.out) hb)
             have n4_ := Aside0.mk (below_step (by repeat (first | (with_reducible first | exact HB.out | apply below_alloc | apply pw_below_drewN | apply below_drew1 | refine below_set ?_ GE542.out) | exact HB.out)) hb)
             clear HO_7
             clear HO_8
             clear HO_543004
             clear BK542
             clear HB
             have HO_7 := n0_
             have HO_8 := n1_
             have HO_543004 := n2_
             have BK542 := n3_
             have HB := n4_
             clear n0_ n1_ n2_ n3_ n4_
             (try clear hb)
             (try clear hb2)
             (try clear hk)
             (try clear hi)
             refine hK.out _ _ ⟨((HB.out.cell (World.block_lt_of_cell? w _ hw564_0)).trans hw564_0), ((HB.out.cell (World.block_lt_of_cell? w _ hw566_0)).trans hw566_0)⟩ (fun hHeld => ?_)
             clear hK K
             refine sqN 77 ?_
             refine sqP 14 (some 15) (bm 16 32767) ?_
             refine sqP 15 (some 16) (bm 16 65535) ?_
             refine done_ (done_of HT_.out (by kernel_rfl)) ?_
             try go_wp2
             go_ret
             exact ⟨sqE', by repeat (first | (with_reducible first | exact HB.out | apply below_alloc | apply pw_below_drewN | apply below_drew1 | refine below_set ?_ GE542.out) | exact HB.out)⟩
            rw [if_neg c45] at H
            have c45b0 := decide_eq_false c45
            clear c45
            have H' := Aside0.mk H
            clear H
            try go_wp2
            have n0_ := Aside0.mk (Kd.N_drew HO_7.out)
            have n1_ := Aside0.mk (Kd.N_drew HO_8.out)
            have n2_ := Aside0.mk (Kd.V_drew HO_543004.out)
            have n3_ := Aside0.mk (blk_drew BK542.out)
            have n4_ := Aside0.mk (below_drew1 HB.out)
            clear HO_7
            clear HO_8
            clear HO_543004
            clear BK542
            clear HB
            have HO_7 := n0_
            have HO_8 := n1_
            have HO_543004 := n2_
            have BK542 := n3_
            have HB := n4_
            clear n0_ n1_ n2_ n3_ n4_
            have p564 : 0 ≤ (x13_2 : Int) := sqD
            have q564 : x13_2 < (l2.length : Int) := sqD
            obtain ⟨ad564, e564, hx564_0⟩ := Kd.at_int HR2.out x13_2 p564 q564
            have hw564_0 := hx564_0
            cases e564
            replace hx564_0 := (HB.out.cell (World.block_lt_of_cell? w _ hx564_0)).trans hx564_0
            replace p564 := eq_true p564
            replace q564 := eq_true q564
            have p566 : 0 ≤ (x13_2 : Int) := sqD
            have q566 : x13_2 < (l2.length : Int) := sqD
            obtain ⟨ad566, e566, hx566_0⟩ := Kd.at_int HR2.out x13_2 p566 q566
            have hw566_0 := hx566_0
            obtain rfl : ad564 = ad566 := (by injection e566)
            replace hx566_0 := (HB.out.cell (World.block_lt_of_cell? w _ hx566_0)).trans hx566_0
            replace p566 := eq_true p566
            replace q566 := eq_true q566
            refine start_ (n := 16) (S := fun w' => w'.cell? (ad564.add (x13_2).toNat) = some (.int .i32 (rd l2 x13_2)) ∧ w'.cell? (ad564.add (x13_2).toNat) = some (.int .i32 (rd l2 x13_2))) (ds := []) (bm 16 0) (by kernel_rfl) rfl rfl ⟨((HB.out.cell (World.block_lt_of_cell? w _ hw564_0)).trans hw564_0), ((HB.out.cell (World.block_lt_of_cell? w _ hw566_0)).trans hw566_0)⟩ (fun hHeld => ?_); refine with_tabW endonymlaw6_TableMore.tab13 endonymlaw6_TableMore.bits13 (fun HT_ HW_ => ?_)
            generalize wr.drew = w53 at HO_7 HO_8 HO_543004 BK542 HB hx564_0 hx566_0 hHeld ⊢
            refine sqP 0 (some 64) (bm 16 1) ?_
            refine sqP 1 (some 65) (bm 16 3) ?_
            refine sqP 2 (some 66) (bm 16 7) ?_
            refine sqP 3 (some 67) (bm 16 15) ?_
            refine sqP 4 (some 68) (bm 16 31) ?_
            refine sqP 7 (some 71) (bm 16 159) ?_
            refine sqP 8 (some 72) (bm 16 415) ?_
            refine sqP 9 (some 73) (bm 16 927) ?_
            refine sqP 10 (some 74) (bm 16 1951) ?_
            refine sqP 11 (some 75) (bm 16 3999) ?_
            refine sqT 5 (some 69) (bm 16 4031) ?_
            refine sqT 12 (some 76) (bm 16 8127) ?_
            refine sqI 6 (some 70) (bm 16 8191) (fun K hK => ?_)
            refine goes_ Tryz.func30 (by kernel_rfl) rfl #[.slice Ao13 t543.length co13, .int .i64 x14_4, .int .i32 (rd l2 x13_2)] (by rfl) rfl rfl sqA ?_
            with_reducible refine (table_Find.calls k4 _ _ t543 x14_4 (rd l2 x13_2) t565 _ ?side1 ?side2 A40.out).mono ?_
            (case side1 => repeat (first | exact (Kd.N_reads' HO_7.out).2.2 | (with_reducible refine Kd.C_alloc ?_ _) | (with_reducible refine Kd.C_drewN ?_ _) | (with_reducible refine Kd.C_drew ?_)))
            (case side2 => exact (Kd.N_reads' HO_7.out).2.1)
            rintro e w54 ⟨rfl, hb⟩
            refine ⟨_, rfl, ?_⟩
            have n0_ := Aside0.mk (Kd.N_below (by (with_reducible repeat (first | apply Kd.N_alloc | apply Kd.N_drewN | apply Kd.N_drew)); exact HO_7.out) hb)
            have n1_ := Aside0.mk (Kd.N_below (by (with_reducible repeat (first | apply Kd.N_alloc | apply Kd.N_drewN | apply Kd.N_drew)); exact HO_8.out) hb)
            have n2_ := Aside0.mk (Kd.V_below (sqV HO_543004.out) hb)
            have n3_ := Aside0.mk (blk_below (g := gb542) (o := .cells #[.int .i64 a1_0, .int .i64 a1_1, .int .i64 a1_2, .int .i64 a1_3, .slice A1_4 l1_4.length c1_4, .string a1_5, .string a1_6, .float .f64 a1_7] 25 (0, 0)) (by (with_reducible repeat (first | refine blk_drewN ?_ _ | refine blk_drew ?_ | refine blk_alloc ?_ _)); exact BK542.out) hb)
            have n4_ := Aside0.mk (below_step (by repeat (first | (with_reducible first | exact HB.out | apply below_alloc | apply pw_below_drewN | apply below_drew1 | refine below_set ?_ GE542.out) | exact HB.out)) hb)
            clear HO_7
            clear HO_8
            clear HO_543004
            clear BK542
            clear HB
            have HO_7 := n0_
            have HO_8 := n1_
            have HO_543004 := n2_
            have BK542 := n3_
            have HB := n4_
            clear n0_ n1_ n2_ n3_ n4_
            (try clear hb)
            (try clear hb2)
            (try clear hk)
            (try clear hi)
            refine hK.out _ _ ⟨((HB.out.cell (World.block_lt_of_cell? w _ hw564_0)).trans hw564_0), ((HB.out.cell (World.block_lt_of_cell? w _ hw566_0)).trans hw566_0)⟩ (fun hHeld => ?_)
            clear hK K
            refine sqN 70 ?_
            refine sqI 13 (some 77) (bm 16 16383) (fun K hK => ?_)
            refine goes_ Tryz.func30 (by kernel_rfl) rfl #[.slice Ao24 y555.length co24, .int .i64 x14_4, .int .i32 (rd l2 x13_2)] (by rfl) rfl rfl sqA ?_
            with_reducible refine (table_Find.calls k4 _ _ y555 x14_4 (rd l2 x13_2) t567 _ ?side1 ?side2 A41.out).mono ?_
            (case side1 => repeat (first | exact (Kd.N_reads' HO_8.out).2.2 | (with_reducible refine Kd.C_alloc ?_ _) | (with_reducible refine Kd.C_drewN ?_ _) | (with_reducible refine Kd.C_drew ?_)))
            (case side2 => exact (Kd.N_reads' HO_8.out).2.1)
            rintro e w55 ⟨rfl, hb⟩
            refine ⟨_, rfl, ?_⟩
            have n0_ := Aside0.mk (Kd.N_below (by (with_reducible repeat (first | apply Kd.N_alloc | apply Kd.N_drewN | apply Kd.N_drew)); exact HO_7.out) hb)
            have n1_ := Aside0.mk (Kd.N_below (by (with_reducible repeat (first | apply Kd.N_alloc | apply Kd.N_drewN | apply Kd.N_drew)); exact HO_8.out) hb)
            have n2_ := Aside0.mk (Kd.V_below (sqV HO_543004.out) hb)
            have n3_ := Aside0.mk (blk_below (g := gb542) (o := .cells #[.int .i64 a1_0, .int .i64 a1_1, .int .i64 a1_2, .int .i64 a1_3, .slice A1_4 l1_4.length c1_4, .string a1_5, .string a1_6, .float .f64 a1_7] 25 (0, 0)) (by (with_reducible repeat (first | refine blk_drewN ?_ _ | refine blk_drew ?_ | refine blk_alloc ?_ _)); exact BK542.out) hb)
            have n4_ := Aside0.mk (below_step (by repeat (first | (with_reducible first | exact HB.out | apply below_alloc | apply pw_below_drewN | apply below_drew1 | refine below_set ?_ GE542.out) | exact HB.out)) hb)
            clear HO_7
            clear HO_8
            clear HO_543004
            clear BK542
            clear HB
            have HO_7 := n0_
            have HO_8 := n1_
            have HO_543004 := n2_
            have BK542 := n3_
            have HB := n4_
            clear n0_ n1_ n2_ n3_ n4_
            (try clear hb)
            (try clear hb2)
            (try clear hk)
            (try clear hi)
            refine hK.out _ _ ⟨((HB.out.cell (World.block_lt_of_cell? w _ hw564_0)).trans hw564_0), ((HB.out.cell (World.block_lt_of_cell? w _ hw566_0)).trans hw566_0)⟩ (fun hHeld => ?_)
            clear hK K
            refine sqN 77 ?_
            refine sqP 14 (some 15) (bm 16 32767) ?_
            refine sqP 15 (some 16) (bm 16 65535) ?_
            refine done_ (done_of HT_.out (by kernel_rfl)) ?_
            try go_wp2
            go_roundg k4
            case measure => have := HJ9.out; have := HK2.out; have := HJ33.out; have := HK4.out; omega
            case rel => exact ⟨(wrap64 (x14_4 + 1)), sqE, H', ⟨by have := HJ9.out; have := HK2.out; have := HJ33.out; have := HK4.out; omega⟩, ⟨by (with_reducible repeat (first | apply Kd.N_alloc | apply Kd.N_drewN | apply Kd.N_drew)); exact HO_7.out⟩, ⟨by (with_reducible repeat (first | apply Kd.N_alloc | apply Kd.N_drewN | apply Kd.N_drew)); exact HO_8.out⟩, ⟨sqV HO_543004.out⟩, ⟨by (with_reducible repeat (first | refine blk_drewN ?_ _ | refine blk_drew ?_ | refine blk_alloc ?_ _)); exact BK542.out⟩, ⟨by repeat (first | (with_reducible first | exact HB.out | apply below_alloc | apply pw_below_drewN | apply below_drew1 | refine below_set ?_ GE542.out) | exact HB.out)⟩⟩
           rw [if_neg c44] at H
           have c44b0 := decide_eq_false c44
           clear c44
           have H' := Aside0.mk H
           clear H
           try go_wp2
           have n0_ := Aside0.mk (Kd.N_drew HO_7.out)
           have n1_ := Aside0.mk (Kd.N_drew HO_8.out)
           have n2_ := Aside0.mk (Kd.V_drew HO_543004.out)
           have n3_ := Aside0.mk (blk_drew BK542.out)
           have n4_ := Aside0.mk (below_drew1 HB.out)
           clear HO_7
           clear HO_8
           clear HO_543004
           clear BK542
           clear HB
           have HO_7 := n0_
           have HO_8 := n1_
           have HO_543004 := n2_
           have BK542 := n3_
           have HB := n4_
           clear n0_ n1_ n2_ n3_ n4_
           have p564 : 0 ≤ (x13_2 : Int) := sqD
           have q564 : x13_2 < (l2.length : Int) := sqD
           obtain ⟨ad564, e564, hx564_0⟩ := Kd.at_int HR2.out x13_2 p564 q564
           have hw564_0 := hx564_0
           cases e564
           replace hx564_0 := (HB.out.cell (World.block_lt_of_cell? w _ hx564_0)).trans hx564_0
           replace p564 := eq_true p564
           replace q564 := eq_true q564
           have p566 : 0 ≤ (x13_2 : Int) := sqD
           have q566 : x13_2 < (l2.length : Int) := sqD
           obtain ⟨ad566, e566, hx566_0⟩ := Kd.at_int HR2.out x13_2 p566 q566
           have hw566_0 := hx566_0
           obtain rfl : ad564 = ad566 := (by injection e566)
           replace hx566_0 := (HB.out.cell (World.block_lt_of_cell? w _ hx566_0)).trans hx566_0
           replace p566 := eq_true p566
           replace q566 := eq_true q566
           refine start_ (n := 16) (S := fun w' => w'.cell? (ad564.add (x13_2).toNat) = some (.int .i32 (rd l2 x13_2)) ∧ w'.cell? (ad564.add (x13_2).toNat) = some (.int .i32 (rd l2 x13_2))) (ds := []) (bm 16 0) (by kernel_rfl) rfl rfl ⟨((HB.out.cell (World.block_lt_of_cell? w _ hw564_0)).trans hw564_0), ((HB.out.cell (World.block_lt_of_cell? w _ hw566_0)).trans hw566_0)⟩ (fun hHeld => ?_); refine with_tabW endonymlaw6_TableMore.tab13 endonymlaw6_TableMore.bits13 (fun HT_ HW_ => ?_)
           generalize wr.drew = w56 at HO_7 HO_8 HO_543004 BK542 HB hx564_0 hx566_0 hHeld ⊢
           refine sqP 0 (some 64) (bm 16 1) ?_
           refine sqP 1 (some 65) (bm 16 3) ?_
           refine sqP 2 (some 66) (bm 16 7) ?_
           refine sqP 3 (some 67) (bm 16 15) ?_
           refine sqP 4 (some 68) (bm 16 31) ?_
           refine sqP 7 (some 71) (bm 16 159) ?_
           refine sqP 8 (some 72) (bm 16 415) ?_
           refine sqP 9 (some 73) (bm 16 927) ?_
           refine sqP 10 (some 74) (bm 16 1951) ?_
           refine sqP 11 (some 75) (bm 16 3999) ?_
           refine sqT 5 (some 69) (bm 16 4031) ?_
           refine sqT 12 (some 76) (bm 16 8127) ?_
           refine sqI 6 (some 70) (bm 16 8191) (fun K hK => ?_)
           refine goes_ Tryz.func30 (by kernel_rfl) rfl #[.slice Ao13 t543.length co13, .int .i64 x14_4, .int .i32 (rd l2 x13_2)] (by rfl) rfl rfl sqA ?_
           with_reducible refine (table_Find.calls k4 _ _ t543 x14_4 (rd l2 x13_2) t565 _ ?side1 ?side2 A40.out).mono ?_
           (case side1 => repeat (first | exact (Kd.N_reads' HO_7.out).2.2 | (with_reducible refine Kd.C_alloc ?_ _) | (with_reducible refine Kd.C_drewN ?_ _) | (with_reducible refine Kd.C_drew ?_)))
           (case side2 => exact (Kd.N_reads' HO_7.out).2.1)
           rintro e w57 ⟨rfl, hb⟩
           refine ⟨_, rfl, ?_⟩
           have n0_ := Aside0.mk (Kd.N_below (by (with_reducible repeat (first | apply Kd.N_alloc | apply Kd.N_drewN | apply Kd.N_drew)); exact HO_7.out) hb)
           have n1_ := Aside0.mk (Kd.N_below (by (with_reducible repeat (first | apply Kd.N_alloc | apply Kd.N_drewN | apply Kd.N_drew)); exact HO_8.out) hb)
           have n2_ := Aside0.mk (Kd.V_below (sqV HO_543004.out) hb)
           have n3_ := Aside0.mk (blk_below (g := gb542) (o := .cells #[.int .i64 a1_0, .int .i64 a1_1, .int .i64 a1_2, .int .i64 a1_3, .slice A1_4 l1_4.length c1_4, .string a1_5, .string a1_6, .float .f64 a1_7] 25 (0, 0)) (by (with_reducible repeat (first | refine blk_drewN ?_ _ | refine blk_drew ?_ | refine blk_alloc ?_ _)); exact BK542.out) hb)
           have n4_ := Aside0.mk (below_step (by repeat (first | (with_reducible first | exact HB.out | apply below_alloc | apply pw_below_drewN | apply below_drew1 | refine below_set ?_ GE542.out) | exact HB.out)) hb)
           clear HO_7
           clear HO_8
           clear HO_543004
           clear BK542
           clear HB
           have HO_7 := n0_
           have HO_8 := n1_
           have HO_543004 := n2_
           have BK542 := n3_
           have HB := n4_
           clear n0_ n1_ n2_ n3_ n4_
           (try clear hb)
           (try clear hb2)
           (try clear hk)
           (try clear hi)
           refine hK.out _ _ ⟨((HB.out.cell (World.block_lt_of_cell? w _ hw564_0)).trans hw564_0), ((HB.out.cell (World.block_lt_of_cell? w _ hw566_0)).trans hw566_0)⟩ (fun hHeld => ?_)
           clear hK K
           refine sqN 70 ?_
           refine sqI 13 (some 77) (bm 16 16383) (fun K hK => ?_)
           refine goes_ Tryz.func30 (by kernel_rfl) rfl #[.slice Ao24 y555.length co24, .int .i64 x14_4, .int .i32 (rd l2 x13_2)] (by rfl) rfl rfl sqA ?_
           with_reducible refine (table_Find.calls k4 _ _ y555 x14_4 (rd l2 x13_2) t567 _ ?side1 ?side2 A41.out).mono ?_
           (case side1 => repeat (first | exact (Kd.N_reads' HO_8.out).2.2 | (with_reducible refine Kd.C_alloc ?_ _) | (with_reducible refine Kd.C_drewN ?_ _) | (with_reducible refine Kd.C_drew ?_)))
           (case side2 => exact (Kd.N_reads' HO_8.out).2.1)
           rintro e w58 ⟨rfl, hb⟩
           refine ⟨_, rfl, ?_⟩
           have n0_ := Aside0.mk (Kd.N_below (by (with_reducible repeat (first | apply Kd.N_alloc | apply Kd.N_drewN | apply Kd.N_drew)); exact HO_7.out) hb)
           have n1_ := Aside0.mk (Kd.N_below (by (with_reducible repeat (first | apply Kd.N_alloc | apply Kd.N_drewN | apply Kd.N_drew)); exact HO_8.out) hb)
           have n2_ := Aside0.mk (Kd.V_below (sqV HO_543004.out) hb)
           have n3_ := Aside0.mk (blk_below (g := gb542) (o := .cells #[.int .i64 a1_0, .int .i64 a1_1, .int .i64 a1_2, .int .i64 a1_3, .slice A1_4 l1_4.length c1_4, .string a1_5, .string a1_6, .float .f64 a1_7] 25 (0, 0)) (by (with_reducible repeat (first | refine blk_drewN ?_ _ | refine blk_drew ?_ | refine blk_alloc ?_ _)); exact BK542.out) hb)
           have n4_ := Aside0.mk (below_step (by repeat (first | (with_reducible first | exact HB.out | apply below_alloc | apply pw_below_drewN | apply below_drew1 | refine below_set ?_ GE542.out) | exact HB.out)) hb)
           clear HO_7
           clear HO_8
           clear HO_543004
           clear BK542
           clear HB
           have HO_7 := n0_
           have HO_8 := n1_
           have HO_543004 := n2_
           have BK542 := n3_
           have HB := n4_
           clear n0_ n1_ n2_ n3_ n4_
           (try clear hb)
           (try clear hb2)
           (try clear hk)
           (try clear hi)
           refine hK.out _ _ ⟨((HB.out.cell (World.block_lt_of_cell? w _ hw564_0)).trans hw564_0), ((HB.out.cell (World.block_lt_of_cell? w _ hw566_0)).trans hw566_0)⟩ (fun hHeld => ?_)
           clear hK K
           refine sqN 77 ?_
           refine sqP 14 (some 15) (bm 16 32767) ?_
           refine sqP 15 (some 16) (bm 16 65535) ?_
           refine done_ (done_of HT_.out (by kernel_rfl)) ?_
           try go_wp2
           go_roundg k4
           case measure => have := HJ9.out; have := HK2.out; have := HJ33.out; have := HK4.out; omega
           case rel => exact ⟨(wrap64 (x14_4 + 1)), sqE, H', ⟨by have := HJ9.out; have := HK2.out; have := HJ33.out; have := HK4.out; omega⟩, ⟨by (with_reducible repeat (first | apply Kd.N_alloc | apply Kd.N_drewN | apply Kd.N_drew)); exact HO_7.out⟩, ⟨by (with_reducible repeat (first | apply Kd.N_alloc | apply Kd.N_drewN | apply Kd.N_drew)); exact HO_8.out⟩, ⟨sqV HO_543004.out⟩, ⟨by (with_reducible repeat (first | refine blk_drewN ?_ _ | refine blk_drew ?_ | refine blk_alloc ?_ _)); exact BK542.out⟩, ⟨by repeat (first | (with_reducible first | exact HB.out | apply below_alloc | apply pw_below_drewN | apply below_drew1 | refine below_set ?_ GE542.out) | exact HB.out)⟩⟩
          rw [if_neg c43] at H
          have c43b0 := beq_eq_false_iff_ne.mpr c43
          have c43b1 := bne_iff_ne.mpr c43
          obtain rfl := Option.some.inj H
          try go_wp2
          have n0_ := Aside0.mk (Kd.N_drew HO_7.out)
          have n1_ := Aside0.mk (Kd.N_drew HO_8.out)
          have n2_ := Aside0.mk (Kd.V_drew HO_543004.out)
          have n3_ := Aside0.mk (blk_drew BK542.out)
          have n4_ := Aside0.mk (below_drew1 HB.out)
          clear HO_7
          clear HO_8
          clear HO_543004
          clear BK542
          clear HB
          have HO_7 := n0_
          have HO_8 := n1_
          have HO_543004 := n2_
          have BK542 := n3_
          have HB := n4_
          clear n0_ n1_ n2_ n3_ n4_
          have p564 : 0 ≤ (x13_2 : Int) := sqD
          have q564 : x13_2 < (l2.length : Int) := sqD
          obtain ⟨ad564, e564, hx564_0⟩ := Kd.at_int HR2.out x13_2 p564 q564
          have hw564_0 := hx564_0
          cases e564
          replace hx564_0 := (HB.out.cell (World.block_lt_of_cell? w _ hx564_0)).trans hx564_0
          replace p564 := eq_true p564
          replace q564 := eq_true q564
          have p566 : 0 ≤ (x13_2 : Int) := sqD
          have q566 : x13_2 < (l2.length : Int) := sqD
          obtain ⟨ad566, e566, hx566_0⟩ := Kd.at_int HR2.out x13_2 p566 q566
          have hw566_0 := hx566_0
          obtain rfl : ad564 = ad566 := (by injection e566)
          replace hx566_0 := (HB.out.cell (World.block_lt_of_cell? w _ hx566_0)).trans hx566_0
          replace p566 := eq_true p566
          replace q566 := eq_true q566
          refine start_ (n := 16) (S := fun w' => w'.cell? (ad564.add (x13_2).toNat) = some (.int .i32 (rd l2 x13_2)) ∧ w'.cell? (ad564.add (x13_2).toNat) = some (.int .i32 (rd l2 x13_2))) (ds := []) (bm 16 0) (by kernel_rfl) rfl rfl ⟨((HB.out.cell (World.block_lt_of_cell? w _ hw564_0)).trans hw564_0), ((HB.out.cell (World.block_lt_of_cell? w _ hw566_0)).trans hw566_0)⟩ (fun hHeld => ?_); refine with_tabW endonymlaw6_TableMore.tab13 endonymlaw6_TableMore.bits13 (fun HT_ HW_ => ?_)
          generalize wr.drew = w59 at HO_7 HO_8 HO_543004 BK542 HB hx564_0 hx566_0 hHeld ⊢
          refine sqP 0 (some 64) (bm 16 1) ?_
          refine sqP 1 (some 65) (bm 16 3) ?_
          refine sqP 2 (some 66) (bm 16 7) ?_
          refine sqP 3 (some 67) (bm 16 15) ?_
          refine sqP 4 (some 68) (bm 16 31) ?_
          refine sqP 7 (some 71) (bm 16 159) ?_
          refine sqP 8 (some 72) (bm 16 415) ?_
          refine sqP 9 (some 73) (bm 16 927) ?_
          refine sqP 10 (some 74) (bm 16 1951) ?_
          refine sqP 11 (some 75) (bm 16 3999) ?_
          refine sqT 5 (some 69) (bm 16 4031) ?_
          refine sqT 12 (some 76) (bm 16 8127) ?_
          refine sqI 6 (some 70) (bm 16 8191) (fun K hK => ?_)
          refine goes_ Tryz.func30 (by kernel_rfl) rfl #[.slice Ao13 t543.length co13, .int .i64 x14_4, .int .i32 (rd l2 x13_2)] (by rfl) rfl rfl sqA ?_
          with_reducible refine (table_Find.calls k4 _ _ t543 x14_4 (rd l2 x13_2) t565 _ ?side1 ?side2 A40.out).mono ?_
          (case side1 => repeat (first | exact (Kd.N_reads' HO_7.out).2.2 | (with_reducible refine Kd.C_alloc ?_ _) | (with_reducible refine Kd.C_drewN ?_ _) | (with_reducible refine Kd.C_drew ?_)))
          (case side2 => exact (Kd.N_reads' HO_7.out).2.1)
          rintro e w60 ⟨rfl, hb⟩
          refine ⟨_, rfl, ?_⟩
          have n0_ := Aside0.mk (Kd.N_below (by (with_reducible repeat (first | apply Kd.N_alloc | apply Kd.N_drewN | apply Kd.N_drew)); exact HO_7.out) hb)
          have n1_ := Aside0.mk (Kd.N_below (by (with_reducible repeat (first | apply Kd.N_alloc | apply Kd.N_drewN | apply Kd.N_drew)); exact HO_8.out) hb)
          have n2_ := Aside0.mk (Kd.V_below (sqV HO_543004.out) hb)
          have n3_ := Aside0.mk (blk_below (g := gb542) (o := .cells #[.int .i64 a1_0, .int .i64 a1_1, .int .i64 a1_2, .int .i64 a1_3, .slice A1_4 l1_4.length c1_4, .string a1_5, .string a1_6, .float .f64 a1_7] 25 (0, 0)) (by (with_reducible repeat (first | refine blk_drewN ?_ _ | refine blk_drew ?_ | refine blk_alloc ?_ _)); exact BK542.out) hb)
          have n4_ := Aside0.mk (below_step (by repeat (first | (with_reducible first | exact HB.out | apply below_alloc | apply pw_below_drewN | apply below_drew1 | refine below_set ?_ GE542.out) | exact HB.out)) hb)
          clear HO_7
          clear HO_8
          clear HO_543004
          clear BK542
          clear HB
          have HO_7 := n0_
          have HO_8 := n1_
          have HO_543004 := n2_
          have BK542 := n3_
          have HB := n4_
          clear n0_ n1_ n2_ n3_ n4_
          (try clear hb)
          (try clear hb2)
          (try clear hk)
          (try clear hi)
          refine hK.out _ _ ⟨((HB.out.cell (World.block_lt_of_cell? w _ hw564_0)).trans hw564_0), ((HB.out.cell (World.block_lt_of_cell? w _ hw566_0)).trans hw566_0)⟩ (fun hHeld => ?_)
          clear hK K
          refine sqN 70 ?_
          refine sqI 13 (some 77) (bm 16 16383) (fun K hK => ?_)
          refine goes_ Tryz.func30 (by kernel_rfl) rfl #[.slice Ao24 y555.length co24, .int .i64 x14_4, .int .i32 (rd l2 x13_2)] (by rfl) rfl rfl sqA ?_
          with_reducible refine (table_Find.calls k4 _ _ y555 x14_4 (rd l2 x13_2) t567 _ ?side1 ?side2 A41.out).mono ?_
          (case side1 => repeat (first | exact (Kd.N_reads' HO_8.out).2.2 | (with_reducible refine Kd.C_alloc ?_ _) | (with_reducible refine Kd.C_drewN ?_ _) | (with_reducible refine Kd.C_drew ?_)))
          (case side2 => exact (Kd.N_reads' HO_8.out).2.1)
          rintro e w61 ⟨rfl, hb⟩
          refine ⟨_, rfl, ?_⟩
          have n0_ := Aside0.mk (Kd.N_below (by (with_reducible repeat (first | apply Kd.N_alloc | apply Kd.N_drewN | apply Kd.N_drew)); exact HO_7.out) hb)
          have n1_ := Aside0.mk (Kd.N_below (by (with_reducible repeat (first | apply Kd.N_alloc | apply Kd.N_drewN | apply Kd.N_drew)); exact HO_8.out) hb)
          have n2_ := Aside0.mk (Kd.V_below (sqV HO_543004.out) hb)
          have n3_ := Aside0.mk (blk_below (g := gb542) (o := .cells #[.int .i64 a1_0, .int .i64 a1_1, .int .i64 a1_2, .int .i64 a1_3, .slice A1_4 l1_4.length c1_4, .string a1_5, .string a1_6, .float .f64 a1_7] 25 (0, 0)) (by (with_reducible repeat (first | refine blk_drewN ?_ _ | refine blk_drew ?_ | refine blk_alloc ?_ _)); exact BK542.out) hb)
          have n4_ := Aside0.mk (below_step (by repeat (first | (with_reducible first | exact HB.out | apply below_alloc | apply pw_below_drewN | apply below_drew1 | refine below_set ?_ GE542.out) | exact HB.out)) hb)
          clear HO_7
          clear HO_8
          clear HO_543004
          clear BK542
          clear HB
          have HO_7 := n0_
          have HO_8 := n1_
          have HO_543004 := n2_
          have BK542 := n3_
          have HB := n4_
          clear n0_ n1_ n2_ n3_ n4_
          (try clear hb)
          (try clear hb2)
          (try clear hk)
          (try clear hi)
          refine hK.out _ _ ⟨((HB.out.cell (World.block_lt_of_cell? w _ hw564_0)).trans hw564_0), ((HB.out.cell (World.block_lt_of_cell? w _ hw566_0)).trans hw566_0)⟩ (fun hHeld => ?_)
          clear hK K
          refine sqN 77 ?_
          refine sqP 14 (some 15) (bm 16 32767) ?_
          refine sqP 15 (some 16) (bm 16 65535) ?_
          refine done_ (done_of HT_.out (by kernel_rfl)) ?_
          try go_wp2
          go_ret
          exact ⟨sqE', by repeat (first | (with_reducible first | exact HB.out | apply below_alloc | apply pw_below_drewN | apply below_drew1 | refine below_set ?_ GE542.out) | exact HB.out)⟩
         rw [if_neg c42] at H
         have c42b0 := decide_eq_false c42
         clear c42
         by_cases c62 : t565 < 0
         ·rw [if_pos c62] at H
          have c62b0 := decide_eq_true c62
          clear c62
          by_cases c63 : t567 ≥ 0
          ·rw [if_pos c63] at H
           have c63b0 := decide_eq_true c63
           clear c63
           by_cases c64 : t567 = (t543.length : Int)
           ·rw [if_pos c64] at H
            have c64b0 := beq_iff_eq.mpr c64
            have c64b1 := bne_eq_false_iff_eq.mpr c64
            clear c64
            have H' := Aside0.mk H
            clear H
            try go_wp2
            have n0_ := Aside0.mk (Kd.N_drew HO_7.out)
            have n1_ := Aside0.mk (Kd.N_drew HO_8.out)
            have n2_ := Aside0.mk (Kd.V_drew HO_543004.out)
            have n3_ := Aside0.mk (blk_drew BK542.out)
            have n4_ := Aside0.mk (below_drew1 HB.out)
            clear HO_7
            clear HO_8
            clear HO_543004
            clear BK542
            clear HB
            have HO_7 := n0_
            have HO_8 := n1_
            have HO_543004 := n2_
            have BK542 := n3_
            have HB := n4_
            clear n0_ n1_ n2_ n3_ n4_
            have p564 : 0 ≤ (x13_2 : Int) := sqD
            have q564 : x13_2 < (l2.length : Int) := sqD
            obtain ⟨ad564, e564, hx564_0⟩ := Kd.at_int HR2.out x13_2 p564 q564
            have hw564_0 := hx564_0
            cases e564
            replace hx564_0 := (HB.out.cell (World.block_lt_of_cell? w _ hx564_0)).trans hx564_0
            replace p564 := eq_true p564
            replace q564 := eq_true q564
            have p566 : 0 ≤ (x13_2 : Int) := sqD
            have q566 : x13_2 < (l2.length : Int) := sqD
            obtain ⟨ad566, e566, hx566_0⟩ := Kd.at_int HR2.out x13_2 p566 q566
            have hw566_0 := hx566_0
            obtain rfl : ad564 = ad566 := (by injection e566)
            replace hx566_0 := (HB.out.cell (World.block_lt_of_cell? w _ hx566_0)).trans hx566_0
            replace p566 := eq_true p566
            replace q566 := eq_true q566
            refine start_ (n := 16) (S := fun w' => w'.cell? (ad564.add (x13_2).toNat) = some (.int .i32 (rd l2 x13_2)) ∧ w'.cell? (ad564.add (x13_2).toNat) = some (.int .i32 (rd l2 x13_2))) (ds := []) (bm 16 0) (by kernel_rfl) rfl rfl ⟨((HB.out.cell (World.block_lt_of_cell? w _ hw564_0)).trans hw564_0), ((HB.out.cell (World.block_lt_of_cell? w _ hw566_0)).trans hw566_0)⟩ (fun hHeld => ?_); refine with_tabW endonymlaw6_TableMore.tab13 endonymlaw6_TableMore.bits13 (fun HT_ HW_ => ?_)
            generalize wr.drew = w65 at HO_7 HO_8 HO_543004 BK542 HB hx564_0 hx566_0 hHeld ⊢
            refine sqP 0 (some 64) (bm 16 1) ?_
            refine sqP 1 (some 65) (bm 16 3) ?_
            refine sqP 2 (some 66) (bm 16 7) ?_
            refine sqP 3 (some 67) (bm 16 15) ?_
            refine sqP 4 (some 68) (bm 16 31) ?_
            refine sqP 7 (some 71) (bm 16 159) ?_
            refine sqP 8 (some 72) (bm 16 415) ?_
            refine sqP 9 (some 73) (bm 16 927) ?_
            refine sqP 10 (some 74) (bm 16 1951) ?_
            refine sqP 11 (some 75) (bm 16 3999) ?_
            refine sqT 5 (some 69) (bm 16 4031) ?_
            refine sqT 12 (some 76) (bm 16 8127) ?_
            refine sqI 6 (some 70) (bm 16 8191) (fun K hK => ?_)
            refine goes_ Tryz.func30 (by kernel_rfl) rfl #[.slice Ao13 t543.length co13, .int .i64 x14_4, .int .i32 (rd l2 x13_2)] (by rfl) rfl rfl sqA ?_
            with_reducible refine (table_Find.calls k4 _ _ t543 x14_4 (rd l2 x13_2) t565 _ ?side1 ?side2 A40.out).mono ?_
            (case side1 => repeat (first | exact (Kd.N_reads' HO_7.out).2.2 | (with_reducible refine Kd.C_alloc ?_ _) | (with_reducible refine Kd.C_drewN ?_ _) | (with_reducible refine Kd.C_drew ?_)))
            (case side2 => exact (Kd.N_reads' HO_7.out).2.1)
            rintro e w66 ⟨rfl, hb⟩
            refine ⟨_, rfl, ?_⟩
            have n0_ := Aside0.mk (Kd.N_below (by (with_reducible repeat (first | apply Kd.N_alloc | apply Kd.N_drewN | apply Kd.N_drew)); exact HO_7.out) hb)
            have n1_ := Aside0.mk (Kd.N_below (by (with_reducible repeat (first | apply Kd.N_alloc | apply Kd.N_drewN | apply Kd.N_drew)); exact HO_8.out) hb)
            have n2_ := Aside0.mk (Kd.V_below (sqV HO_543004.out) hb)
            have n3_ := Aside0.mk (blk_below (g := gb542) (o := .cells #[.int .i64 a1_0, .int .i64 a1_1, .int .i64 a1_2, .int .i64 a1_3, .slice A1_4 l1_4.length c1_4, .string a1_5, .string a1_6, .float .f64 a1_7] 25 (0, 0)) (by (with_reducible repeat (first | refine blk_drewN ?_ _ | refine blk_drew ?_ | refine blk_alloc ?_ _)); exact BK542.out) hb)
            have n4_ := Aside0.mk (below_step (by repeat (first | (with_reducible first | exact HB.out | apply below_alloc | apply pw_below_drewN | apply below_drew1 | refine below_set ?_ GE542.out) | exact HB.out)) hb)
            clear HO_7
            clear HO_8
            clear HO_543004
            clear BK542
            clear HB
            have HO_7 := n0_
            have HO_8 := n1_
            have HO_543004 := n2_
            have BK542 := n3_
            have HB := n4_
            clear n0_ n1_ n2_ n3_ n4_
            (try clear hb)
            (try clear hb2)
            (try clear hk)
            (try clear hi)
            refine hK.out _ _ ⟨((HB.out.cell (World.block_lt_of_cell? w _ hw564_0)).trans hw564_0), ((HB.out.cell (World.block_lt_of_cell? w _ hw566_0)).trans hw566_0)⟩ (fun hHeld => ?_)
            clear hK K
            refine sqN 70 ?_
            refine sqI 13 (some 77) (bm 16 16383) (fun K hK => ?_)
            refine goes_ Tryz.func30 (by kernel_rfl) rfl #[.slice Ao24 y555.length co24, .int .i64 x14_4, .int .i32 (rd l2 x13_2)] (by rfl) rfl rfl sqA ?_
            with_reducible refine (table_Find.calls k4 _ _ y555 x14_4 (rd l2 x13_2) t567 _ ?side1 ?side2 A41.out).mono ?_
            (case side1 => repeat (first | exact (Kd.N_reads' HO_8.out).2.2 | (with_reducible refine Kd.C_alloc ?_ _) | (with_reducible refine Kd.C_drewN ?_ _) | (with_reducible refine Kd.C_drew ?_)))
            (case side2 => exact (Kd.N_reads' HO_8.out).2.1)
            rintro e w67 ⟨rfl, hb⟩
            refine ⟨_, rfl, ?_⟩
            have n0_ := Aside0.mk (Kd.N_below (by (with_reducible repeat (first | apply Kd.N_alloc | apply Kd.N_drewN | apply Kd.N_drew)); exact HO_7.out) hb)
            have n1_ := Aside0.mk (Kd.N_below (by (with_reducible repeat (first | apply Kd.N_alloc | apply Kd.N_drewN | apply Kd.N_drew)); exact HO_8.out) hb)
            have n2_ := Aside0.mk (Kd.V_below (sqV HO_543004.out) hb)
            have n3_ := Aside0.mk (blk_below (g := gb542) (o := .cells #[.int .i64 a1_0, .int .i64 a1_1, .int .i64 a1_2, .int .i64 a1_3, .slice A1_4 l1_4.length c1_4, .string a1_5, .string a1_6, .float .f64 a1_7] 25 (0, 0)) (by (with_reducible repeat (first | refine blk_drewN ?_ _ | refine blk_drew ?_ | refine blk_alloc ?_ _)); exact BK542.out) hb)
            have n4_ := Aside0.mk (below_step (by repeat (first | (with_reducible first | exact HB.out | apply below_alloc | apply pw_below_drewN | apply below_drew1 | refine below_set ?_ GE542.out) | exact HB.out)) hb)
            clear HO_7
            clear HO_8
            clear HO_543004
            clear BK542
            clear HB
            have HO_7 := n0_
            have HO_8 := n1_
            have HO_543004 := n2_
            have BK542 := n3_
            have HB := n4_
            clear n0_ n1_ n2_ n3_ n4_
            (try clear hb)
            (try clear hb2)
            (try clear hk)
            (try clear hi)
            refine hK.out _ _ ⟨((HB.out.cell (World.block_lt_of_cell? w _ hw564_0)).trans hw564_0), ((HB.out.cell (World.block_lt_of_cell? w _ hw566_0)).trans hw566_0)⟩ (fun hHeld => ?_)
            clear hK K
            refine sqN 77 ?_
            refine sqP 14 (some 15) (bm 16 32767) ?_
            refine sqP 15 (some 16) (bm 16 65535) ?_
            refine done_ (done_of HT_.out (by kernel_rfl)) ?_
            try go_wp2
            go_roundg k4
            case measure => have := HJ9.out; have := HK2.out; have := HJ33.out; have := HK4.out; omega
            case rel => exact ⟨(wrap64 (x14_4 + 1)), sqE, H', ⟨by have := HJ9.out; have := HK2.out; have := HJ33.out; have := HK4.out; omega⟩, ⟨by (with_reducible repeat (first | apply Kd.N_alloc | apply Kd.N_drewN | apply Kd.N_drew)); exact HO_7.out⟩, ⟨by (with_reducible repeat (first | apply Kd.N_alloc | apply Kd.N_drewN | apply Kd.N_drew)); exact HO_8.out⟩, ⟨sqV HO_543004.out⟩, ⟨by (with_reducible repeat (first | refine blk_drewN ?_ _ | refine blk_drew ?_ | refine blk_alloc ?_ _)); exact BK542.out⟩, ⟨by repeat (first | (with_reducible first | exact HB.out | apply below_alloc | apply pw_below_drewN | apply below_drew1 | refine below_set ?_ GE542.out) | exact HB.out)⟩⟩
           rw [if_neg c64] at H
           have c64b0 := beq_eq_false_iff_ne.mpr c64
           have c64b1 := bne_iff_ne.mpr c64
           obtain rfl := Option.some.inj H
           try go_wp2
           have n0_ := Aside0.mk (Kd.N_drew HO_7.out)
           have n1_ := Aside0.mk (Kd.N_drew HO_8.out)
           have n2_ := Aside0.mk (Kd.V_drew HO_543004.out)
           have n3_ := Aside0.mk (blk_drew BK542.out)
           have n4_ := Aside0.mk (below_drew1 HB.out)
           clear HO_7
           clear HO_8
           clear HO_543004
           clear BK542
           clear HB
           have HO_7 := n0_
           have HO_8 := n1_
           have HO_543004 := n2_
           have BK542 := n3_
           have HB := n4_
           clear n0_ n1_ n2_ n3_ n4_
           have p564 : 0 ≤ (x13_2 : Int) := sqD
           have q564 : x13_2 < (l2.length : Int) := sqD
           obtain ⟨ad564, e564, hx564_0⟩ := Kd.at_int HR2.out x13_2 p564 q564
           have hw564_0 := hx564_0
           cases e564
           replace hx564_0 := (HB.out.cell (World.block_lt_of_cell? w _ hx564_0)).trans hx564_0
           replace p564 := eq_true p564
           replace q564 := eq_true q564
           have p566 : 0 ≤ (x13_2 : Int) := sqD
           have q566 : x13_2 < (l2.length : Int) := sqD
           obtain ⟨ad566, e566, hx566_0⟩ := Kd.at_int HR2.out x13_2 p566 q566
           have hw566_0 := hx566_0
           obtain rfl : ad564 = ad566 := (by injection e566)
           replace hx566_0 := (HB.out.cell (World.block_lt_of_cell? w _ hx566_0)).trans hx566_0
           replace p566 := eq_true p566
           replace q566 := eq_true q566
           refine start_ (n := 16) (S := fun w' => w'.cell? (ad564.add (x13_2).toNat) = some (.int .i32 (rd l2 x13_2)) ∧ w'.cell? (ad564.add (x13_2).toNat) = some (.int .i32 (rd l2 x13_2))) (ds := []) (bm 16 0) (by kernel_rfl) rfl rfl ⟨((HB.out.cell (World.block_lt_of_cell? w _ hw564_0)).trans hw564_0), ((HB.out.cell (World.block_lt_of_cell? w _ hw566_0)).trans hw566_0)⟩ (fun hHeld => ?_); refine with_tabW endonymlaw6_TableMore.tab13 endonymlaw6_TableMore.bits13 (fun HT_ HW_ => ?_)
           generalize wr.drew = w68 at HO_7 HO_8 HO_543004 BK542 HB hx564_0 hx566_0 hHeld ⊢
           refine sqP 0 (some 64) (bm 16 1) ?_
           refine sqP 1 (some 65) (bm 16 3) ?_
           refine sqP 2 (some 66) (bm 16 7) ?_
           refine sqP 3 (some 67) (bm 16 15) ?_
           refine sqP 4 (some 68) (bm 16 31) ?_
           refine sqP 7 (some 71) (bm 16 159) ?_
           refine sqP 8 (some 72) (bm 16 415) ?_
           refine sqP 9 (some 73) (bm 16 927) ?_
           refine sqP 10 (some 74) (bm 16 1951) ?_
           refine sqP 11 (some 75) (bm 16 3999) ?_
           refine sqT 5 (some 69) (bm 16 4031) ?_
           refine sqT 12 (some 76) (bm 16 8127) ?_
           refine sqI 6 (some 70) (bm 16 8191) (fun K hK => ?_)
           refine goes_ Tryz.func30 (by kernel_rfl) rfl #[.slice Ao13 t543.length co13, .int .i64 x14_4, .int .i32 (rd l2 x13_2)] (by rfl) rfl rfl sqA ?_
           with_reducible refine (table_Find.calls k4 _ _ t543 x14_4 (rd l2 x13_2) t565 _ ?side1 ?side2 A40.out).mono ?_
           (case side1 => repeat (first | exact (Kd.N_reads' HO_7.out).2.2 | (with_reducible refine Kd.C_alloc ?_ _) | (with_reducible refine Kd.C_drewN ?_ _) | (with_reducible refine Kd.C_drew ?_)))
           (case side2 => exact (Kd.N_reads' HO_7.out).2.1)
           rintro e w69 ⟨rfl, hb⟩
           refine ⟨_, rfl, ?_⟩
           have n0_ := Aside0.mk (Kd.N_below (by (with_reducible repeat (first | apply Kd.N_alloc | apply Kd.N_drewN | apply Kd.N_drew)); exact HO_7.out) hb)
           have n1_ := Aside0.mk (Kd.N_below (by (with_reducible repeat (first | apply Kd.N_alloc | apply Kd.N_drewN | apply Kd.N_drew)); exact HO_8.out) hb)
           have n2_ := Aside0.mk (Kd.V_below (sqV HO_543004.out) hb)
           have n3_ := Aside0.mk (blk_below (g := gb542) (o := .cells #[.int .i64 a1_0, .int .i64 a1_1, .int .i64 a1_2, .int .i64 a1_3, .slice A1_4 l1_4.length c1_4, .string a1_5, .string a1_6, .float .f64 a1_7] 25 (0, 0)) (by (with_reducible repeat (first | refine blk_drewN ?_ _ | refine blk_drew ?_ | refine blk_alloc ?_ _)); exact BK542.out) hb)
           have n4_ := Aside0.mk (below_step (by repeat (first | (with_reducible first | exact HB.out | apply below_alloc | apply pw_below_drewN | apply below_drew1 | refine below_set ?_ GE542.out) | exact HB.out)) hb)
           clear HO_7
           clear HO_8
           clear HO_543004
           clear BK542
           clear HB
           have HO_7 := n0_
           have HO_8 := n1_
           have HO_543004 := n2_
           have BK542 := n3_
           have HB := n4_
           clear n0_ n1_ n2_ n3_ n4_
           (try clear hb)
           (try clear hb2)
           (try clear hk)
           (try clear hi)
           refine hK.out _ _ ⟨((HB.out.cell (World.block_lt_of_cell? w _ hw564_0)).trans hw564_0), ((HB.out.cell (World.block_lt_of_cell? w _ hw566_0)).trans hw566_0)⟩ (fun hHeld => ?_)
           clear hK K
           refine sqN 70 ?_
           refine sqI 13 (some 77) (bm 16 16383) (fun K hK => ?_)
           refine goes_ Tryz.func30 (by kernel_rfl) rfl #[.slice Ao24 y555.length co24, .int .i64 x14_4, .int .i32 (rd l2 x13_2)] (by rfl) rfl rfl sqA ?_
           with_reducible refine (table_Find.calls k4 _ _ y555 x14_4 (rd l2 x13_2) t567 _ ?side1 ?side2 A41.out).mono ?_
           (case side1 => repeat (first | exact (Kd.N_reads' HO_8.out).2.2 | (with_reducible refine Kd.C_alloc ?_ _) | (with_reducible refine Kd.C_drewN ?_ _) | (with_reducible refine Kd.C_drew ?_)))
           (case side2 => exact (Kd.N_reads' HO_8.out).2.1)
           rintro e w70 ⟨rfl, hb⟩
           refine ⟨_, rfl, ?_⟩
           have n0_ := Aside0.mk (Kd.N_below (by (with_reducible repeat (first | apply Kd.N_alloc | apply Kd.N_drewN | apply Kd.N_drew)); exact HO_7.out) hb)
           have n1_ := Aside0.mk (Kd.N_below (by (with_reducible repeat (first | apply Kd.N_alloc | apply Kd.N_drewN | apply Kd.N_drew)); exact HO_8.out) hb)
           have n2_ := Aside0.mk (Kd.V_below (sqV HO_543004.out) hb)
           have n3_ := Aside0.mk (blk_below (g := gb542) (o := .cells #[.int .i64 a1_0, .int .i64 a1_1, .int .i64 a1_2, .int .i64 a1_3, .slice A1_4 l1_4.length c1_4, .string a1_5, .string a1_6, .float .f64 a1_7] 25 (0, 0)) (by (with_reducible repeat (first | refine blk_drewN ?_ _ | refine blk_drew ?_ | refine blk_alloc ?_ _)); exact BK542.out) hb)
           have n4_ := Aside0.mk (below_step (by repeat (first | (with_reducible first | exact HB.out | apply below_alloc | apply pw_below_drewN | apply below_drew1 | refine below_set ?_ GE542.out) | exact HB.out)) hb)
           clear HO_7
           clear HO_8
           clear HO_543004
           clear BK542
           clear HB
           have HO_7 := n0_
           have HO_8 := n1_
           have HO_543004 := n2_
           have BK542 := n3_
           have HB := n4_
           clear n0_ n1_ n2_ n3_ n4_
           (try clear hb)
           (try clear hb2)
           (try clear hk)
           (try clear hi)
           refine hK.out _ _ ⟨((HB.out.cell (World.block_lt_of_cell? w _ hw564_0)).trans hw564_0), ((HB.out.cell (World.block_lt_of_cell? w _ hw566_0)).trans hw566_0)⟩ (fun hHeld => ?_)
           clear hK K
           refine sqN 77 ?_
           refine sqP 14 (some 15) (bm 16 32767) ?_
           refine sqP 15 (some 16) (bm 16 65535) ?_
           refine done_ (done_of HT_.out (by kernel_rfl)) ?_
           try go_wp2
           go_ret
           exact ⟨sqE', by repeat (first | (with_reducible first | exact HB.out | apply below_alloc | apply pw_below_drewN | apply below_drew1 | refine below_set ?_ GE542.out) | exact HB.out)⟩
          rw [if_neg c63] at H
          have c63b0 := decide_eq_false c63
          clear c63
          have H' := Aside0.mk H
          clear H
          try go_wp2
          have n0_ := Aside0.mk (Kd.N_drew HO_7.out)
          have n1_ := Aside0.mk (Kd.N_drew HO_8.out)
          have n2_ := Aside0.mk (Kd.V_drew HO_543004.out)
          have n3_ := Aside0.mk (blk_drew BK542.out)
          have n4_ := Aside0.mk (below_drew1 HB.out)
          clear HO_7
          clear HO_8
          clear HO_543004
          clear BK542
          clear HB
          have HO_7 := n0_
          have HO_8 := n1_
          have HO_543004 := n2_
          have BK542 := n3_
          have HB := n4_
          clear n0_ n1_ n2_ n3_ n4_
          have p564 : 0 ≤ (x13_2 : Int) := sqD
          have q564 : x13_2 < (l2.length : Int) := sqD
          obtain ⟨ad564, e564, hx564_0⟩ := Kd.at_int HR2.out x13_2 p564 q564
          have hw564_0 := hx564_0
          cases e564
          replace hx564_0 := (HB.out.cell (World.block_lt_of_cell? w _ hx564_0)).trans hx564_0
          replace p564 := eq_true p564
          replace q564 := eq_true q564
          have p566 : 0 ≤ (x13_2 : Int) := sqD
          have q566 : x13_2 < (l2.length : Int) := sqD
          obtain ⟨ad566, e566, hx566_0⟩ := Kd.at_int HR2.out x13_2 p566 q566
          have hw566_0 := hx566_0
          obtain rfl : ad564 = ad566 := (by injection e566)
          replace hx566_0 := (HB.out.cell (World.block_lt_of_cell? w _ hx566_0)).trans hx566_0
          replace p566 := eq_true p566
          replace q566 := eq_true q566
          refine start_ (n := 16) (S := fun w' => w'.cell? (ad564.add (x13_2).toNat) = some (.int .i32 (rd l2 x13_2)) ∧ w'.cell? (ad564.add (x13_2).toNat) = some (.int .i32 (rd l2 x13_2))) (ds := []) (bm 16 0) (by kernel_rfl) rfl rfl ⟨((HB.out.cell (World.block_lt_of_cell? w _ hw564_0)).trans hw564_0), ((HB.out.cell (World.block_lt_of_cell? w _ hw566_0)).trans hw566_0)⟩ (fun hHeld => ?_); refine with_tabW endonymlaw6_TableMore.tab13 endonymlaw6_TableMore.bits13 (fun HT_ HW_ => ?_)
          generalize wr.drew = w71 at HO_7 HO_8 HO_543004 BK542 HB hx564_0 hx566_0 hHeld ⊢
          refine sqP 0 (some 64) (bm 16 1) ?_
          refine sqP 1 (some 65) (bm 16 3) ?_
          refine sqP 2 (some 66) (bm 16 7) ?_
          refine sqP 3 (some 67) (bm 16 15) ?_
          refine sqP 4 (some 68) (bm 16 31) ?_
          refine sqP 7 (some 71) (bm 16 159) ?_
          refine sqP 8 (some 72) (bm 16 415) ?_
          refine sqP 9 (some 73) (bm 16 927) ?_
          refine sqP 10 (some 74) (bm 16 1951) ?_
          refine sqP 11 (some 75) (bm 16 3999) ?_
          refine sqT 5 (some 69) (bm 16 4031) ?_
          refine sqT 12 (some 76) (bm 16 8127) ?_
          refine sqI 6 (some 70) (bm 16 8191) (fun K hK => ?_)
          refine goes_ Tryz.func30 (by kernel_rfl) rfl #[.slice Ao13 t543.length co13, .int .i64 x14_4, .int .i32 (rd l2 x13_2)] (by rfl) rfl rfl sqA ?_
          with_reducible refine (table_Find.calls k4 _ _ t543 x14_4 (rd l2 x13_2) t565 _ ?side1 ?side2 A40.out).mono ?_
          (case side1 => repeat (first | exact (Kd.N_reads' HO_7.out).2.2 | (with_reducible refine Kd.C_alloc ?_ _) | (with_reducible refine Kd.C_drewN ?_ _) | (with_reducible refine Kd.C_drew ?_)))
          (case side2 => exact (Kd.N_reads' HO_7.out).2.1)
          rintro e w72 ⟨rfl, hb⟩
          refine ⟨_, rfl, ?_⟩
          have n0_ := Aside0.mk (Kd.N_below (by (with_reducible repeat (first | apply Kd.N_alloc | apply Kd.N_drewN | apply Kd.N_drew)); exact HO_7.out) hb)
          have n1_ := Aside0.mk (Kd.N_below (by (with_reducible repeat (first | apply Kd.N_alloc | apply Kd.N_drewN | apply Kd.N_drew)); exact HO_8.out) hb)
          have n2_ := Aside0.mk (Kd.V_below (sqV HO_543004.out) hb)
          have n3_ := Aside0.mk (blk_below (g := gb542) (o := .cells #[.int .i64 a1_0, .int .i64 a1_1, .int .i64 a1_2, .int .i64 a1_3, .slice A1_4 l1_4.length c1_4, .string a1_5, .string a1_6, .float .f64 a1_7] 25 (0, 0)) (by (with_reducible repeat (first | refine blk_drewN ?_ _ | refine blk_drew ?_ | refine blk_alloc ?_ _)); exact BK542.out) hb)
          have n4_ := Aside0.mk (below_step (by repeat (first | (with_reducible first | exact HB.out | apply below_alloc | apply pw_below_drewN | apply below_drew1 | refine below_set ?_ GE542.out) | exact HB.out)) hb)
          clear HO_7
          clear HO_8
          clear HO_543004
          clear BK542
          clear HB
          have HO_7 := n0_
          have HO_8 := n1_
          have HO_543004 := n2_
          have BK542 := n3_
          have HB := n4_
          clear n0_ n1_ n2_ n3_ n4_
          (try clear hb)
          (try clear hb2)
          (try clear hk)
          (try clear hi)
          refine hK.out _ _ ⟨((HB.out.cell (World.block_lt_of_cell? w _ hw564_0)).trans hw564_0), ((HB.out.cell (World.block_lt_of_cell? w _ hw566_0)).trans hw566_0)⟩ (fun hHeld => ?_)
          clear hK K
          refine sqN 70 ?_
          refine sqI 13 (some 77) (bm 16 16383) (fun K hK => ?_)
          refine goes_ Tryz.func30 (by kernel_rfl) rfl #[.slice Ao24 y555.length co24, .int .i64 x14_4, .int .i32 (rd l2 x13_2)] (by rfl) rfl rfl sqA ?_
          with_reducible refine (table_Find.calls k4 _ _ y555 x14_4 (rd l2 x13_2) t567 _ ?side1 ?side2 A41.out).mono ?_
          (case side1 => repeat (first | exact (Kd.N_reads' HO_8.out).2.2 | (with_reducible refine Kd.C_alloc ?_ _) | (with_reducible refine Kd.C_drewN ?_ _) | (with_reducible refine Kd.C_drew ?_)))
          (case side2 => exact (Kd.N_reads' HO_8.out).2.1)
          rintro e w73 ⟨rfl, hb⟩
          refine ⟨_, rfl, ?_⟩
          have n0_ := Aside0.mk (Kd.N_below (by (with_reducible repeat (first | apply Kd.N_alloc | apply Kd.N_drewN | apply Kd.N_drew)); exact HO_7.out) hb)
          have n1_ := Aside0.mk (Kd.N_below (by (with_reducible repeat (first | apply Kd.N_alloc | apply Kd.N_drewN | apply Kd.N_drew)); exact HO_8.out) hb)
          have n2_ := Aside0.mk (Kd.V_below (sqV HO_543004.out) hb)
          have n3_ := Aside0.mk (blk_below (g := gb542) (o := .cells #[.int .i64 a1_0, .int .i64 a1_1, .int .i64 a1_2, .int .i64 a1_3, .slice A1_4 l1_4.length c1_4, .string a1_5, .string a1_6, .float .f64 a1_7] 25 (0, 0)) (by (with_reducible repeat (first | refine blk_drewN ?_ _ | refine blk_drew ?_ | refine blk_alloc ?_ _)); exact BK542.out) hb)
          have n4_ := Aside0.mk (below_step (by repeat (first | (with_reducible first | exact HB.out | apply below_alloc | apply pw_below_drewN | apply below_drew1 | refine below_set ?_ GE542.out) | exact HB.out)) hb)
          clear HO_7
          clear HO_8
          clear HO_543004
          clear BK542
          clear HB
          have HO_7 := n0_
          have HO_8 := n1_
          have HO_543004 := n2_
          have BK542 := n3_
          have HB := n4_
          clear n0_ n1_ n2_ n3_ n4_
          (try clear hb)
          (try clear hb2)
          (try clear hk)
          (try clear hi)
          refine hK.out _ _ ⟨((HB.out.cell (World.block_lt_of_cell? w _ hw564_0)).trans hw564_0), ((HB.out.cell (World.block_lt_of_cell? w _ hw566_0)).trans hw566_0)⟩ (fun hHeld => ?_)
          clear hK K
          refine sqN 77 ?_
          refine sqP 14 (some 15) (bm 16 32767) ?_
          refine sqP 15 (some 16) (bm 16 65535) ?_
          refine done_ (done_of HT_.out (by kernel_rfl)) ?_
          try go_wp2
          go_roundg k4
          case measure => have := HJ9.out; have := HK2.out; have := HJ33.out; have := HK4.out; omega
          case rel => exact ⟨(wrap64 (x14_4 + 1)), sqE, H', ⟨by have := HJ9.out; have := HK2.out; have := HJ33.out; have := HK4.out; omega⟩, ⟨by (with_reducible repeat (first | apply Kd.N_alloc | apply Kd.N_drewN | apply Kd.N_drew)); exact HO_7.out⟩, ⟨by (with_reducible repeat (first | apply Kd.N_alloc | apply Kd.N_drewN | apply Kd.N_drew)); exact HO_8.out⟩, ⟨sqV HO_543004.out⟩, ⟨by (with_reducible repeat (first | refine blk_drewN ?_ _ | refine blk_drew ?_ | refine blk_alloc ?_ _)); exact BK542.out⟩, ⟨by repeat (first | (with_reducible first | exact HB.out | apply below_alloc | apply pw_below_drewN | apply below_drew1 | refine below_set ?_ GE542.out) | exact HB.out)⟩⟩
         rw [if_neg c62] at H
         have c62b0 := decide_eq_false c62
         clear c62
         have H' := Aside0.mk H
         clear H
         try go_wp2
         have n0_ := Aside0.mk (Kd.N_drew HO_7.out)
         have n1_ := Aside0.mk (Kd.N_drew HO_8.out)
         have n2_ := Aside0.mk (Kd.V_drew HO_543004.out)
         have n3_ := Aside0.mk (blk_drew BK542.out)
         have n4_ := Aside0.mk (below_drew1 HB.out)
         clear HO_7
         clear HO_8
         clear HO_543004
         clear BK542
         clear HB
         have HO_7 := n0_
         have HO_8 := n1_
         have HO_543004 := n2_
         have BK542 := n3_
         have HB := n4_
         clear n0_ n1_ n2_ n3_ n4_
         have p564 : 0 ≤ (x13_2 : Int) := sqD
         have q564 : x13_2 < (l2.length : Int) := sqD
         obtain ⟨ad564, e564, hx564_0⟩ := Kd.at_int HR2.out x13_2 p564 q564
         have hw564_0 := hx564_0
         cases e564
         replace hx564_0 := (HB.out.cell (World.block_lt_of_cell? w _ hx564_0)).trans hx564_0
         replace p564 := eq_true p564
         replace q564 := eq_true q564
         have p566 : 0 ≤ (x13_2 : Int) := sqD
         have q566 : x13_2 < (l2.length : Int) := sqD
         obtain ⟨ad566, e566, hx566_0⟩ := Kd.at_int HR2.out x13_2 p566 q566
         have hw566_0 := hx566_0
         obtain rfl : ad564 = ad566 := (by injection e566)
         replace hx566_0 := (HB.out.cell (World.block_lt_of_cell? w _ hx566_0)).trans hx566_0
         replace p566 := eq_true p566
         replace q566 := eq_true q566
         refine start_ (n := 16) (S := fun w' => w'.cell? (ad564.add (x13_2).toNat) = some (.int .i32 (rd l2 x13_2)) ∧ w'.cell? (ad564.add (x13_2).toNat) = some (.int .i32 (rd l2 x13_2))) (ds := []) (bm 16 0) (by kernel_rfl) rfl rfl ⟨((HB.out.cell (World.block_lt_of_cell? w _ hw564_0)).trans hw564_0), ((HB.out.cell (World.block_lt_of_cell? w _ hw566_0)).trans hw566_0)⟩ (fun hHeld => ?_); refine with_tabW endonymlaw6_TableMore.tab13 endonymlaw6_TableMore.bits13 (fun HT_ HW_ => ?_)
         generalize wr.drew = w74 at HO_7 HO_8 HO_543004 BK542 HB hx564_0 hx566_0 hHeld ⊢
         refine sqP 0 (some 64) (bm 16 1) ?_
         refine sqP 1 (some 65) (bm 16 3) ?_
         refine sqP 2 (some 66) (bm 16 7) ?_
         refine sqP 3 (some 67) (bm 16 15) ?_
         refine sqP 4 (some 68) (bm 16 31) ?_
         refine sqP 7 (some 71) (bm 16 159) ?_
         refine sqP 8 (some 72) (bm 16 415) ?_
         refine sqP 9 (some 73) (bm 16 927) ?_
         refine sqP 10 (some 74) (bm 16 1951) ?_
         refine sqP 11 (some 75) (bm 16 3999) ?_
         refine sqT 5 (some 69) (bm 16 4031) ?_
         refine sqT 12 (some 76) (bm 16 8127) ?_
         refine sqI 6 (some 70) (bm 16 8191) (fun K hK => ?_)
         refine goes_ Tryz.func30 (by kernel_rfl) rfl #[.slice Ao13 t543.length co13, .int .i64 x14_4, .int .i32 (rd l2 x13_2)] (by rfl) rfl rfl sqA ?_
         with_reducible refine (table_Find.calls k4 _ _ t543 x14_4 (rd l2 x13_2) t565 _ ?side1 ?side2 A40.out).mono ?_
         (case side1 => repeat (first | exact (Kd.N_reads' HO_7.out).2.2 | (with_reducible refine Kd.C_alloc ?_ _) | (with_reducible refine Kd.C_drewN ?_ _) | (with_reducible refine Kd.C_drew ?_)))
         (case side2 => exact (Kd.N_reads' HO_7.out).2.1)
         rintro e w75 ⟨rfl, hb⟩
         refine ⟨_, rfl, ?_⟩
         have n0_ := Aside0.mk (Kd.N_below (by (with_reducible repeat (first | apply Kd.N_alloc | apply Kd.N_drewN | apply Kd.N_drew)); exact HO_7.out) hb)
         have n1_ := Aside0.mk (Kd.N_below (by (with_reducible repeat (first | apply Kd.N_alloc | apply Kd.N_drewN | apply Kd.N_drew)); exact HO_8.out) hb)
         have n2_ := Aside0.mk (Kd.V_below (sqV HO_543004.out) hb)
         have n3_ := Aside0.mk (blk_below (g := gb542) (o := .cells #[.int .i64 a1_0, .int .i64 a1_1, .int .i64 a1_2, .int .i64 a1_3, .slice A1_4 l1_4.length c1_4, .string a1_5, .string a1_6, .float .f64 a1_7] 25 (0, 0)) (by (with_reducible repeat (first | refine blk_drewN ?_ _ | refine blk_drew ?_ | refine blk_alloc ?_ _)); exact BK542.out) hb)
         have n4_ := Aside0.mk (below_step (by repeat (first | (with_reducible first | exact HB.out | apply below_alloc | apply pw_below_drewN | apply below_drew1 | refine below_set ?_ GE542.out) | exact HB.out)) hb)
         clear HO_7
         clear HO_8
         clear HO_543004
         clear BK542
         clear HB
         have HO_7 := n0_
         have HO_8 := n1_
         have HO_543004 := n2_
         have BK542 := n3_
         have HB := n4_
         clear n0_ n1_ n2_ n3_ n4_
         (try clear hb)
         (try clear hb2)
         (try clear hk)
         (try clear hi)
         refine hK.out _ _ ⟨((HB.out.cell (World.block_lt_of_cell? w _ hw564_0)).trans hw564_0), ((HB.out.cell (World.block_lt_of_cell? w _ hw566_0)).trans hw566_0)⟩ (fun hHeld => ?_)
         clear hK K
         refine sqN 70 ?_
         refine sqI 13 (some 77) (bm 16 16383) (fun K hK => ?_)
         refine goes_ Tryz.func30 (by kernel_rfl) rfl #[.slice Ao24 y555.length co24, .int .i64 x14_4, .int .i32 (rd l2 x13_2)] (by rfl) rfl rfl sqA ?_
         with_reducible refine (table_Find.calls k4 _ _ y555 x14_4 (rd l2 x13_2) t567 _ ?side1 ?side2 A41.out).mono ?_
         (case side1 => repeat (first | exact (Kd.N_reads' HO_8.out).2.2 | (with_reducible refine Kd.C_alloc ?_ _) | (with_reducible refine Kd.C_drewN ?_ _) | (with_reducible refine Kd.C_drew ?_)))
         (case side2 => exact (Kd.N_reads' HO_8.out).2.1)
         rintro e w76 ⟨rfl, hb⟩
         refine ⟨_, rfl, ?_⟩
         have n0_ := Aside0.mk (Kd.N_below (by (with_reducible repeat (first | apply Kd.N_alloc | apply Kd.N_drewN | apply Kd.N_drew)); exact HO_7.out) hb)
         have n1_ := Aside0.mk (Kd.N_below (by (with_reducible repeat (first | apply Kd.N_alloc | apply Kd.N_drewN | apply Kd.N_drew)); exact HO_8.out) hb)
         have n2_ := Aside0.mk (Kd.V_below (sqV HO_543004.out) hb)
         have n3_ := Aside0.mk (blk_below (g := gb542) (o := .cells #[.int .i64 a1_0, .int .i64 a1_1, .int .i64 a1_2, .int .i64 a1_3, .slice A1_4 l1_4.length c1_4, .string a1_5, .string a1_6, .float .f64 a1_7] 25 (0, 0)) (by (with_reducible repeat (first | refine blk_drewN ?_ _ | refine blk_drew ?_ | refine blk_alloc ?_ _)); exact BK542.out) hb)
         have n4_ := Aside0.mk (below_step (by repeat (first | (with_reducible first | exact HB.out | apply below_alloc | apply pw_below_drewN | apply below_drew1 | refine below_set ?_ GE542.out) | exact HB.out)) hb)
         clear HO_7
         clear HO_8
         clear HO_543004
         clear BK542
         clear HB
         have HO_7 := n0_
         have HO_8 := n1_
         have HO_543004 := n2_
         have BK542 := n3_
         have HB := n4_
         clear n0_ n1_ n2_ n3_ n4_
         (try clear hb)
         (try clear hb2)
         (try clear hk)
         (try clear hi)
         refine hK.out _ _ ⟨((HB.out.cell (World.block_lt_of_cell? w _ hw564_0)).trans hw564_0), ((HB.out.cell (World.block_lt_of_cell? w _ hw566_0)).trans hw566_0)⟩ (fun hHeld => ?_)
         clear hK K
         refine sqN 77 ?_
         refine sqP 14 (some 15) (bm 16 32767) ?_
         refine sqP 15 (some 16) (bm 16 65535) ?_
         refine done_ (done_of HT_.out (by kernel_rfl)) ?_
         try go_wp2
         go_roundg k4
         case measure => have := HJ9.out; have := HK2.out; have := HJ33.out; have := HK4.out; omega
         case rel => exact ⟨(wrap64 (x14_4 + 1)), sqE, H', ⟨by have := HJ9.out; have := HK2.out; have := HJ33.out; have := HK4.out; omega⟩, ⟨by (with_reducible repeat (first | apply Kd.N_alloc | apply Kd.N_drewN | apply Kd.N_drew)); exact HO_7.out⟩, ⟨by (with_reducible repeat (first | apply Kd.N_alloc | apply Kd.N_drewN | apply Kd.N_drew)); exact HO_8.out⟩, ⟨sqV HO_543004.out⟩, ⟨by (with_reducible repeat (first | refine blk_drewN ?_ _ | refine blk_drew ?_ | refine blk_alloc ?_ _)); exact BK542.out⟩, ⟨by repeat (first | (with_reducible first | exact HB.out | apply below_alloc | apply pw_below_drewN | apply below_drew1 | refine below_set ?_ GE542.out) | exact HB.out)⟩⟩
end Go.Proofs.YtnoppeocbfapdaaGreatDoor.T
