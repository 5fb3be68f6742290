import Derived.Test.YtfmjdoofopamkaaGreatDoorWx0
import Derived.Test.YtfmjdoofopamkaaGreatDoorWx15
namespace Go.Proofs.YtfmjdoofopamkaaGreatDoor.W
open Go.RowKit Go.Proofs.YtfmjdoofopamkaaGreatDoorW.PrintWords Go.Proofs.YtfmjdoofopamkaaGreatDoorW.PrintLast Go.Proofs.YtfmjdoofopamkaaGreatDoorW.PrintMore
set_option maxHeartbeats 8000000
set_option maxRecDepth 100000
attribute [local go_sem] max2_int min2_int max_two min_two max_three min_three max_four min_four
set_option linter.unusedVariables false
set_option linter.unusedSimpArgs false
def endonymref2_plus.f (k : Nat) (a0_0 : Bool) (l0_1 : List Int) (a1_0 : Bool) (l1_1 : List Int) : Option (Bool × List Int) := if (a0_0 == a1_0) = true then ((endonymref2_Plus.f k l0_1 l1_1).bind fun t659 => (some (a0_0, t659))) else ((endonymref2_Cmp.f k l0_1 l1_1).bind fun t662 => (if t662 ≥ 0 then ((endonymref2_Less.f k l0_1 l1_1).bind fun t663 => (some (a0_0, t663))) else ((endonymref2_Less.f k l1_1 l0_1).bind fun t666 => (some (a1_0, t666)))))
theorem endonymref2_plus.mono : ∀ a0 a1 a2 a3 k, LeO (endonymref2_plus.f k a0 a1 a2 a3) (endonymref2_plus.f (k + 1) a0 a1 a2 a3) := by
 intro a0 a1 a2 a3 k
 unfold endonymref2_plus.f
 repeat' first | (with_reducible first | apply endonymref2_Cmp.mono | apply endonymref2_Less.mono | apply endonymref2_Plus.mono | apply LeO.refl | apply LeO.none | refine LeO.ite ?_ ?_ | refine LeO.bind ?_ (fun _ => ?_)) | apply LeO.none | refine LeO.ite ?_ ?_ | refine LeO.bind ?_ (fun _ => ?_)
def endonymref2_plus.T2 : Bool × List (List Nat × List Nat) := (true, [([], []), ([0], [0]), ([], []), ([2], [2]), ([], []), ([4], [4]), ([3, 5], [3, 5]), ([1, 6], [1, 6]), ([7, 6, 0, 1, 2, 3, 4, 5, 6, 7], [7])])
def endonymref2_plus.B2 : List Nat := [0, 1, 0, 4, 0, 16, 60, 127, 255]
theorem endonymref2_plus.tab2 : rtab .any (opsOf Tryz.f84 2) = endonymref2_plus.T2 := by kernel_rfl
theorem endonymref2_plus.bits2 : waitsOk endonymref2_plus.T2.2 endonymref2_plus.B2 = true := by kernel_rfl
def endonymref2_plus.T4 : Bool × List (List Nat × List Nat) := (true, [([], []), ([0], [0]), ([], []), ([2], [2]), ([], []), ([4], [4]), ([3, 5], [3, 5]), ([1, 6], [1, 6]), ([7, 6, 0, 1, 2, 3, 4, 5, 6, 7], [7])])
def endonymref2_plus.B4 : List Nat := [0, 1, 0, 4, 0, 16, 60, 127, 255]
theorem endonymref2_plus.tab4 : rtab .any (opsOf Tryz.f84 4) = endonymref2_plus.T4 := by kernel_rfl
theorem endonymref2_plus.bits4 : waitsOk endonymref2_plus.T4.2 endonymref2_plus.B4 = true := by kernel_rfl
def endonymref2_plus.T5 : Bool × List (List Nat × List Nat) := (true, [([], []), ([0], [0]), ([], []), ([2], [2]), ([], []), ([4], [4]), ([3, 5], [3, 5]), ([1, 6], [1, 6]), ([7, 6, 0, 1, 2, 3, 4, 5, 6, 7], [7])])
def endonymref2_plus.B5 : List Nat := [0, 1, 0, 4, 0, 16, 60, 127, 255]
theorem endonymref2_plus.tab5 : rtab .any (opsOf Tryz.f84 5) = endonymref2_plus.T5 := by kernel_rfl
theorem endonymref2_plus.bits5 : waitsOk endonymref2_plus.T5.2 endonymref2_plus.B5 = true := by kernel_rfl
theorem endonymref2_plus.calls (k : Nat) (a0_0 : Bool) (A0_1 : Option Addr) (c0_1 : Nat) (l0_1 : List Int) (a1_0 : Bool) (A1_1 : Option Addr) (c1_1 : Nat) (l1_1 : List Int) (r1 : Bool) (r2 : List Int) (w : World) (hr0_1 : Kd.C (Kd.int .u32) w A0_1 l0_1.length l0_1) (hc0_1 : l0_1.length ≤ c0_1) (hr1_1 : Kd.C (Kd.int .u32) w A1_1 l1_1.length l1_1) (hc1_1 : l1_1.length ≤ c1_1) (h : endonymref2_plus.f k a0_0 l0_1 a1_0 l1_1 = some (r1, r2)) :
  Calls Tryz.prog 84 #[.agg #[.bool a0_0, .slice A0_1 l0_1.length c0_1], .agg #[.bool a1_0, .slice A1_1 l1_1.length c1_1]] w fun e w' => ∃ v1_ : Value, e = .returned (.agg #[.bool r1, v1_]) ∧ Kd.R (Kd.int .u32) 83 w' w.heap.size (fun _ => True) v1_ r2 ∧ Below w.heap.size w w' := by
 have hu73 := Tryz.underlying73
 have HR0_1 := Aside0.mk hr0_1
 have HC0_1 := Aside0.mk hc0_1
 clear hr0_1 hc0_1
 have HR1_1 := Aside0.mk hr1_1
 have HC1_1 := Aside0.mk hc1_1
 clear hr1_1 hc1_1
 have HB := Aside0.mk (Below.refl w.heap.size w)
 have H : (if (a0_0 == a1_0) = true then ((endonymref2_Plus.f k l0_1 l1_1).bind fun t659 => (some (a0_0, t659))) else ((endonymref2_Cmp.f k l0_1 l1_1).bind fun t662 => (if t662 ≥ 0 then ((endonymref2_Less.f k l0_1 l1_1).bind fun t663 => (some (a0_0, t663))) else ((endonymref2_Less.f k l1_1 l0_1).bind fun t666 => (some (a1_0, t666)))))) = some (r1, r2) := h
 clear h
 by_cases c3 : (a0_0 == a1_0) = true
 ·rw [if_pos c3] at H
  have c3b0 : (a0_0 == a1_0) = true := c3
  (try (have c3b1 : decide (a0_0 = a1_0) = true := by simpa using c3))
  (try (have c3b2 : (a0_0 == a1_0) = true := by simpa using c3))
  clear c3
  obtain ⟨t659, A4, H⟩ := sqO H
  try dsimp only at H
  simp only [Option.some.injEq, Prod.mk.injEq] at H
  obtain ⟨rfl, rfl⟩ := H
  go_enter Tryz.func84, Tryz.ntmps84
  try go_wp2_with (first | ((with_reducible refine gate_dst (N := 2) rfl ?_); refine box_event ?hg (N := 2) ?hd (cs := #[.bool a0_0, .slice A0_1 l0_1.length c0_1]) (t := 73) ?hr ?_; (case hd => rfl); (case hg => rfl); (case hr => first | (go_simp; done) | (go_simp; rfl)); intro gb656 hg w5 hbox hb; have n0_ := Aside0.mk (below_step sqB hb); have n1_ := Aside0.mk (hbox); have n2_ := Aside0.mk ((by rw [hg]; exact (below_size sqB) : w.heap.size ≤ gb656)); have n3_ := Aside0.mk ((by rw [hg]; exact (below_size sqB) : w.heap.size ≤ gb656)); clear HB; have HB := n0_; have BK656 := n1_; have GW656 := n2_; have GE656 := n3_; clear n0_ n1_ n2_ n3_; clear hb hbox hg) | ((with_reducible refine gate_dst (N := 3) rfl ?_); refine box_event ?hg (N := 3) ?hd (cs := #[.bool a1_0, .slice A1_1 l1_1.length c1_1]) (t := 73) ?hr ?_; (case hd => rfl); (case hg => rfl); (case hr => first | (go_simp; done) | (go_simp; rfl)); intro gb657 hg w6 hbox hb; have n0_ := Aside0.mk (blk_below (g := gb656) (o := .cells #[.bool a0_0, .slice A0_1 l0_1.length c0_1] 73 (0, 0)) (by (with_reducible repeat (first | refine blk_drewN ?_ _ | refine blk_drew ?_ | refine blk_alloc ?_ _)); exact BK656.out) hb); have n1_ := Aside0.mk (below_step (by repeat (first | (with_reducible first | exact HB.out | apply below_alloc | apply pw_below_drewN | apply below_drew1 | refine below_set ?_ GE656.out) | exact HB.out)) hb); have n2_ := Aside0.mk (hbox); have n3_ := Aside0.mk ((by rw [hg]; exact (below_size (by repeat (first | (with_reducible first | exact HB.out | apply below_alloc | apply pw_below_drewN | apply below_drew1 | refine below_set ?_ GE656.out) | exact HB.out))) : w.heap.size ≤ gb657)); have n4_ := Aside0.mk ((by rw [hg]; exact (below_size (by repeat (first | (with_reducible first | exact HB.out | apply below_alloc | apply pw_below_drewN | apply below_drew1 | refine below_set ?_ GE656.out) | exact HB.out))) : w.heap.size ≤ gb657)); have n5_ := Aside0.mk ((by rw [hg]; exact Nat.ne_of_lt (blk_lt (g := gb656) (o := .cells #[.bool a0_0, .slice A0_1 l0_1.length c0_1] 73 (0, 0)) (by (with_reducible repeat (first | refine blk_drewN ?_ _ | refine blk_drew ?_ | refine blk_alloc ?_ _)); exact BK656.out)) : gb656 ≠ gb657)); have n6_ := Aside0.mk ((by rw [hg]; exact Nat.ne_of_gt (blk_lt (g := gb656) (o := .cells #[.bool a0_0, .slice A0_1 l0_1.length c0_1] 73 (0, 0)) (by (with_reducible repeat (first | refine blk_drewN ?_ _ | refine blk_drew ?_ | refine blk_alloc ?_ _)); exact BK656.out)) : gb657 ≠ gb656)); clear BK656; clear HB; have BK656 := n0_; have HB := n1_; have BK657 := n2_; have GW657 := n3_; have GE657 := n4_; have NB656_657 := n5_; have NB657_656 := n6_; clear n0_ n1_ n2_ n3_ n4_ n5_ n6_; clear hb hbox hg) | ((with_reducible refine gate_dst (N := 4) rfl ?_); refine box_event ?hg (N := 4) ?hd (cs := #[.bool false, .slice none 0 0]) (t := 73) ?hr ?_; (case hd => rfl); (case hg => rfl); (case hr => first | (go_simp; done) | (go_simp; rfl)); intro gb658 hg w7 hbox hb; have n0_ := Aside0.mk (blk_below (g := gb656) (o := .cells #[.bool a0_0, .slice A0_1 l0_1.length c0_1] 73 (0, 0)) (by (with_reducible repeat (first | refine blk_drewN ?_ _ | refine blk_drew ?_ | refine blk_alloc ?_ _)); exact BK656.out) hb); have n1_ := Aside0.mk (blk_below (g := gb657) (o := .cells #[.bool a1_0, .slice A1_1 l1_1.length c1_1] 73 (0, 0)) (by (with_reducible repeat (first | refine blk_drewN ?_ _ | refine blk_drew ?_ | refine blk_alloc ?_ _)); exact BK657.out) hb); have n2_ := Aside0.mk (below_step (by repeat (first | (with_reducible first | exact HB.out | apply below_alloc | apply pw_below_drewN | apply below_drew1 | refine below_set ?_ GE656.out | refine below_set ?_ GE657.out) | exact HB.out)) hb); have n3_ := Aside0.mk (hbox); have n4_ := Aside0.mk ((by rw [hg]; exact (below_size (by repeat (first | (with_reducible first | exact HB.out | apply below_alloc | apply pw_below_drewN | apply below_drew1 | refine below_set ?_ GE656.out | refine below_set ?_ GE657.out) | exact HB.out))) : w.heap.size ≤ gb658)); have n5_ := Aside0.mk ((by rw [hg]; exact (below_size (by repeat (first | (with_reducible first | exact HB.out | apply below_alloc | apply pw_below_drewN | apply below_drew1 | refine below_set ?_ GE656.out | refine below_set ?_ GE657.out) | exact HB.out))) : w.heap.size ≤ gb658)); have n6_ := Aside0.mk ((by rw [hg]; exact Nat.ne_of_lt (blk_lt (g := gb656) (o := .cells #[.bool a0_0, .slice A0_1 l0_1.length c0_1] 73 (0, 0)) (by (with_reducible repeat (first | refine blk_drewN ?_ _ | refine blk_drew ?_ | refine blk_alloc ?_ _)); exact BK656.out)) : gb656 ≠ gb658)); have n7_ := Aside0.mk ((by rw [hg]; exact Nat.ne_of_gt (blk_lt (g := gb656) (o := .cells #[.bool a0_0, .slice A0_1 l0_1.length c0_1] 73 (0, 0)) (by (with_reducible repeat (first | refine blk_drewN ?_ _ | refine blk_drew ?_ | refine blk_alloc ?_ _)); exact BK656.out)) : gb658 ≠ gb656)); have n8_ := Aside0.mk ((by rw [hg]; exact Nat.ne_of_lt (blk_lt (g := gb657) (o := .cells #[.bool a1_0, .slice A1_1 l1_1.length c1_1] 73 (0, 0)) (by (with_reducible repeat (first | refine blk_drewN ?_ _ | refine blk_drew ?_ | refine blk_alloc ?_ _)); exact BK657.out)) : gb657 ≠ gb658)); have n9_ := Aside0.mk ((by rw [hg]; exact Nat.ne_of_gt (blk_lt (g := gb657) (o := .cells #[.bool a1_0, .slice A1_1 l1_1.length c1_1] 73 (0, 0)) (by (with_reducible repeat (first | refine blk_drewN ?_ _ | refine blk_drew ?_ | refine blk_alloc ?_ _)); exact BK657.out)) : gb658 ≠ gb657)); clear BK656; clear BK657; clear HB; have BK656 := n0_; have BK657 := n1_; have HB := n2_; have BK658 := n3_; have GW658 := n4_; have GE658 := n5_; have NB656_658 := n6_; have NB658_656 := n7_; have NB657_658 := n8_; have NB658_657 := n9_; clear n0_ n1_ n2_ n3_ n4_ n5_ n6_ n7_ n8_ n9_; clear hb hbox hg; have hnb8 := NB656_657.out; have hnc8 := NB657_656.out; have hnb9 := NB656_658.out; have hnc9 := NB658_656.out; have hcz10_0 : w7.cell? ⟨gb656, 0, none⟩ = some (.bool a0_0) := (blk_cell BK656.out 0).trans rfl; have hcz10_1 : w7.cell? ⟨gb656, 1, none⟩ = some (.slice A0_1 l0_1.length c0_1) := (blk_cell BK656.out 1).trans rfl; have hfz10_0 := blk_frozen BK656.out 0; have hfz10_1 := blk_frozen BK656.out 1; have hnb11 := NB657_658.out; have hnc11 := NB658_657.out; have hcz12_0 : w7.cell? ⟨gb657, 0, none⟩ = some (.bool a1_0) := (blk_cell BK657.out 0).trans rfl; have hcz12_1 : w7.cell? ⟨gb657, 1, none⟩ = some (.slice A1_1 l1_1.length c1_1) := (blk_cell BK657.out 1).trans rfl; have hfz12_0 := blk_frozen BK657.out 0; have hfz12_1 := blk_frozen BK657.out 1))
  have n0_ := Aside0.mk (blk_drew BK656.out)
  have n1_ := Aside0.mk (blk_drew BK657.out)
  have n2_ := Aside0.mk (blk_drew BK658.out)
  have n3_ := Aside0.mk (below_drew1 HB.out)
  clear BK656
  clear BK657
  clear BK658
  clear HB
  have BK656 := n0_
  have BK657 := n1_
  have BK658 := n2_
  have HB := n3_
  clear n0_ n1_ n2_ n3_
  refine start_ (n := 9) (S := fun w' => w'.cell? ⟨gb656, 0, none⟩ = some (.bool a0_0) ∧ w'.cell? ⟨gb656, 1, none⟩ = some (.slice A0_1 l0_1.length c0_1) ∧ w'.cell? ⟨gb657, 0, none⟩ = some (.bool a1_0) ∧ w'.cell? ⟨gb657, 1, none⟩ = some (.slice A1_1 l1_1.length c1_1)) (ds := []) #[false, false, false, false, false, false, false, false, false] (by kernel_rfl) rfl rfl ⟨(blk_cell BK656.out 0).trans rfl, (blk_cell BK656.out 1).trans rfl, (blk_cell BK657.out 0).trans rfl, (blk_cell BK657.out 1).trans rfl⟩ (fun hHeld => ?_); refine with_tabW endonymref2_plus.tab2 endonymref2_plus.bits2 (fun HT_ HW_ => ?_)
  generalize w7.drew = w13 at BK656 BK657 BK658 HB hHeld ⊢
  refine pure_ (i := 0) (N := some 10) (v := ?_) (a' := ?_) #[true, false, false, false, false, false, false, false, false] rfl rfl (any_of HT_.out (by kernel_rfl)) (fun _ _ _ h => h) (Or.inl ⟨by rfl, ?_⟩) ?_ ?_
  rotate_left
  ·intro w'
   go_simp
   with_reducible rfl
  rotate_left
  ·simp only [Act.put, List.setIfInBounds_toArray, List.set_cons_zero, List.set_cons_succ, i64_w, i32_w]
   rfl
  refine pure_ (i := 2) (N := some 12) (v := ?_) (a' := ?_) #[true, false, true, false, false, false, false, false, false] rfl rfl (any_of HT_.out (by kernel_rfl)) (fun _ _ _ h => h) (Or.inl ⟨by rfl, ?_⟩) ?_ ?_
  rotate_left
  ·intro w'
   go_simp
   with_reducible rfl
  rotate_left
  ·simp only [Act.put, List.setIfInBounds_toArray, List.set_cons_zero, List.set_cons_succ, i64_w, i32_w]
   rfl
  refine pure_ (i := 4) (N := some 14) (v := ?_) (a' := ?_) #[true, false, true, false, true, false, false, false, false] rfl rfl (any_of HT_.out (by kernel_rfl)) (fun _ _ _ h => h) (Or.inl ⟨by rfl, ?_⟩) ?_ ?_
  rotate_left
  ·intro w'
   go_simp
   with_reducible rfl
  rotate_left
  ·simp only [Act.put, List.setIfInBounds_toArray, List.set_cons_zero, List.set_cons_succ, i64_w, i32_w]
   rfl
  refine take_ (i := 1) (N := some 11) (v := ?_) (a' := ?_) #[true, true, true, false, true, false, false, false, false] rfl rfl (take_ofW HT_.out HW_.out (by kernel_rfl)) (fun _ _ _ h => h) (Or.inl ⟨by rfl, ?_⟩) hHeld ?_ ?_
  rotate_left
  ·rintro w' ⟨s0, s1, s2, s3⟩
   go_simp
   with_reducible rfl
  rotate_left
  ·simp only [Act.put, List.setIfInBounds_toArray, List.set_cons_zero, List.set_cons_succ, i64_w, i32_w]
   rfl
  refine take_ (i := 3) (N := some 13) (v := ?_) (a' := ?_) #[true, true, true, true, true, false, false, false, false] rfl rfl (take_ofW HT_.out HW_.out (by kernel_rfl)) (fun _ _ _ h => h) (Or.inl ⟨by rfl, ?_⟩) hHeld ?_ ?_
  rotate_left
  ·rintro w' ⟨s0, s1, s2, s3⟩
   go_simp
   with_reducible rfl
  rotate_left
  ·simp only [Act.put, List.setIfInBounds_toArray, List.set_cons_zero, List.set_cons_succ, i64_w, i32_w]
   rfl
  refine take_ (i := 5) (N := some 15) (v := ?_) (a' := ?_) #[true, true, true, true, true, true, false, false, false] rfl rfl (take_ofW HT_.out HW_.out (by kernel_rfl)) (fun _ _ _ h => h) (Or.inl ⟨by rfl, ?_⟩) hHeld ?_ ?_
  rotate_left
  ·rintro w' ⟨s0, s1, s2, s3⟩
   go_simp
   with_reducible rfl
  rotate_left
  ·simp only [Act.put, List.setIfInBounds_toArray, List.set_cons_zero, List.set_cons_succ, i64_w, i32_w]
   rfl
  refine one_ (i := 6) (N := some 16) #[true, true, true, true, true, true, true, false, false] rfl rfl (one_of HT_.out (by kernel_rfl)) (by decide) (fun K hK => ?_)
  refine goes_ Tryz.func99 (by kernel_rfl) rfl #[.slice A0_1 l0_1.length c0_1, .slice A1_1 l1_1.length c1_1] (by rfl) rfl rfl sqA ?_
  with_reducible refine (endonymref2_Plus.calls k _ _ l0_1 _ _ l1_1 t659 _ ?side1 ?side2 ?side3 ?side4 A4.out).mono ?_
  (case side1 => repeat (first | exact (Kd.C_below HR0_1.out HB.out) | (with_reducible refine Kd.C_alloc ?_ _) | (with_reducible refine Kd.C_drewN ?_ _) | (with_reducible refine Kd.C_drew ?_)))
  (case side2 => exact HC0_1.out)
  (case side3 => repeat (first | exact (Kd.C_below HR1_1.out HB.out) | (with_reducible refine Kd.C_alloc ?_ _) | (with_reducible refine Kd.C_drewN ?_ _) | (with_reducible refine Kd.C_drew ?_)))
  (case side4 => exact HC1_1.out)
  rintro e w14 ⟨v660, rfl, ho0, hb⟩
  refine ⟨_, rfl, ?_⟩
  have n0_ := Aside0.mk (Kd.R_lower ho0 (below_size (by repeat (first | (with_reducible first | exact HB.out | apply below_alloc | apply pw_below_drewN | apply below_drew1 | refine below_set ?_ GE656.out | refine below_set ?_ GE657.out | refine below_set ?_ GE658.out) | exact HB.out))))
  have n1_ := Aside0.mk (blk_below (g := gb656) (o := .cells #[.bool a0_0, .slice A0_1 l0_1.length c0_1] 73 (0, 0)) (by (with_reducible repeat (first | refine blk_drewN ?_ _ | refine blk_drew ?_ | refine blk_alloc ?_ _)); exact BK656.out) hb)
  have n2_ := Aside0.mk (blk_below (g := gb657) (o := .cells #[.bool a1_0, .slice A1_1 l1_1.length c1_1] 73 (0, 0)) (by (with_reducible repeat (first | refine blk_drewN ?_ _ | refine blk_drew ?_ | refine blk_alloc ?_ _)); exact BK657.out) hb)
  have n3_ := Aside0.mk (blk_below (g := gb658) (o := .cells #[.bool false, .slice none 0 0] 73 (0, 0)) (by (with_reducible repeat (first | refine blk_drewN ?_ _ | refine blk_drew ?_ | refine blk_alloc ?_ _)); exact BK658.out) hb)
  have n4_ := Aside0.mk (below_step (by repeat (first | (with_reducible first | exact HB.out | apply below_alloc | apply pw_below_drewN | apply below_drew1 | refine below_set ?_ GE656.out | refine below_set ?_ GE657.out | refine below_set ?_ GE658.out) | exact HB.out)) hb)
  clear BK656
  clear BK657
  clear BK658
  clear HB
  have HO661 := n0_
  have BK656 := n1_
  have BK657 := n2_
  have BK658 := n3_
  have HB := n4_
  clear n0_ n1_ n2_ n3_ n4_
  (try clear hb)
  (try clear hb2)
  (try clear hk)
  (try clear hi)
  (try clear ho0)
  obtain ⟨Ao15, co15, eo15⟩ := Kd.R_slice HO661.out
  (first | subst eo15 | (injection eo15 with f1_ f2_ f3_; have f4_ := f1_.symm; have f5_ := f3_.symm; clear f1_ f2_ f3_; subst f4_; subst f5_))
  refine hK.out _ _ ⟨(blk_cell BK656.out 0).trans rfl, (blk_cell BK656.out 1).trans rfl, (blk_cell BK657.out 0).trans rfl, (blk_cell BK657.out 1).trans rfl⟩ (fun hHeld => ?_)
  clear hK K
  refine norm_ (a' := ?_) ?_ ?_
  rotate_left
  ·show Act.put _ (some 16) _ = _
   simp only [Act.put, List.setIfInBounds_toArray, List.set_cons_zero, List.set_cons_succ, i64_w, i32_w]
   rfl
  refine pure_ (i := 7) (N := some 17) (v := ?_) (a' := ?_) #[true, true, true, true, true, true, true, true, false] rfl rfl (any_of HT_.out (by kernel_rfl)) (fun _ _ _ h => h) (Or.inl ⟨by rfl, ?_⟩) ?_ ?_
  rotate_left
  ·intro w'
   go_simp
   with_reducible rfl
  rotate_left
  ·simp only [Act.put, List.setIfInBounds_toArray, List.set_cons_zero, List.set_cons_succ, i64_w, i32_w]
   rfl
  refine one_ (i := 8) (N := none) #[true, true, true, true, true, true, true, true, true] rfl rfl (one_of HT_.out (by kernel_rfl)) (by decide) (fun K hK => ?_)
  have hs16 : w14.cell? ⟨gb658, 0, none⟩ = some (.bool false) := (blk_cell BK658.out 0).trans rfl
  have hfs16 := blk_frozen BK658.out 0
  have hns16_0 := NB656_658.out
  have hns16_1 := NB657_658.out
  have hms16_0 := NB658_656.out
  have hms16_1 := NB658_657.out
  have hs17 : w14.cell? ⟨gb658, 1, none⟩ = some (.slice none 0 0) := (blk_cell BK658.out 1).trans rfl
  have hfs17 := blk_frozen BK658.out 1
  have hns17_0 := NB656_658.out
  have hns17_1 := NB657_658.out
  have hms17_0 := NB658_656.out
  have hms17_1 := NB658_657.out
  refine skip_ (w1 := ?_) (by rfl) rfl ?_ ?_
  rotate_left
  ·go_simp
   rfl
  refine hK.out _ _ ⟨((cell_far (p := ⟨gb658, _, none⟩) NB656_658.out _).trans (((cell_far (p := ⟨gb658, _, none⟩) NB656_658.out _).trans (hHeld.1)))), ((cell_far (p := ⟨gb658, _, none⟩) NB656_658.out _).trans (((cell_far (p := ⟨gb658, _, none⟩) NB656_658.out _).trans (hHeld.2.1)))), ((cell_far (p := ⟨gb658, _, none⟩) NB657_658.out _).trans (((cell_far (p := ⟨gb658, _, none⟩) NB657_658.out _).trans (hHeld.2.2.1)))), ((cell_far (p := ⟨gb658, _, none⟩) NB657_658.out _).trans (((cell_far (p := ⟨gb658, _, none⟩) NB657_658.out _).trans (hHeld.2.2.2))))⟩ (fun hHeld => ?_)
  clear hK K
  refine done_ (done_of HT_.out (by kernel_rfl)) ?_
  try go_wp2
  refine bodyPost_ret (results_cell_row rfl _ _ gb658 73 #[.bool a0_0, .slice Ao15 t659.length co15] (0, 0) _ rfl (by (with_reducible repeat (first | refine blk_drewN ?_ _ | refine blk_drew ?_ | refine blk_alloc ?_ _)); refine blk_put (cs := #[.bool a0_0, .slice none 0 0]) ?_ 1 _ rfl; (with_reducible repeat (first | refine blk_drewN ?_ _ | refine blk_drew ?_ | refine blk_alloc ?_ _)); refine blk_put (cs := #[.bool false, .slice none 0 0]) ?_ 0 _ rfl; (with_reducible repeat (first | refine blk_drewN ?_ _ | refine blk_drew ?_ | refine blk_alloc ?_ _)); exact BK658.out) Tryz.underlying73 rfl (by kernel_rfl)) rfl ?_
  exact ⟨_, sqE', by (with_reducible repeat (first | apply Kd.R_alloc | apply Kd.R_drewN | apply Kd.R_drew)); exact Kd.R_mono (Kd.R_far (p := ⟨gb658, 1, none⟩) (Kd.R_far (p := ⟨gb658, 0, none⟩) (Kd.R_types HO661.out BK658.out (by decide)) (fun _ hk => hk.2) (.bool a0_0)) (fun _ hk => hk.2) (.slice Ao15 t659.length co15)) (fun _ hk => trivial), by repeat (first | (with_reducible first | exact HB.out | apply below_alloc | apply pw_below_drewN | apply below_drew1 | refine below_set ?_ GE656.out | refine below_set ?_ GE657.out | refine below_set ?_ GE658.out) | exact HB.out)⟩
 rw [if_neg c3] at H
 have c3b0 : (a0_0 == a1_0) = false := by simpa using c3
 (try (have c3b1 : decide (a0_0 = a1_0) = false := by simpa using c3))
 (try (have c3b2 : (a0_0 == a1_0) = false := by simpa using c3))
 (try (have c3b3 : ¬ (a0_0 = a1_0) := by simpa using c3))
 clear c3
 obtain ⟨t662, A18, H⟩ := sqO H
 try dsimp only at H
 by_cases c19 : t662 ≥ 0
 ·rw [if_pos c19] at H
  have c19b0 := decide_eq_true c19
  clear c19
  obtain ⟨t663, A20, H⟩ := sqO H
  try dsimp only at H
  simp only [Option.some.injEq, Prod.mk.injEq] at H
  obtain ⟨rfl, rfl⟩ := H
  go_enter Tryz.func84, Tryz.ntmps84
  try go_wp2_with (first | ((with_reducible refine gate_dst (N := 2) rfl ?_); refine box_event ?hg (N := 2) ?hd (cs := #[.bool a0_0, .slice A0_1 l0_1.length c0_1]) (t := 73) ?hr ?_; (case hd => rfl); (case hg => rfl); (case hr => first | (go_simp; done) | (go_simp; rfl)); intro gb656 hg w21 hbox hb; have n0_ := Aside0.mk (below_step sqB hb); have n1_ := Aside0.mk (hbox); have n2_ := Aside0.mk ((by rw [hg]; exact (below_size sqB) : w.heap.size ≤ gb656)); have n3_ := Aside0.mk ((by rw [hg]; exact (below_size sqB) : w.heap.size ≤ gb656)); clear HB; have HB := n0_; have BK656 := n1_; have GW656 := n2_; have GE656 := n3_; clear n0_ n1_ n2_ n3_; clear hb hbox hg) | ((with_reducible refine gate_dst (N := 3) rfl ?_); refine box_event ?hg (N := 3) ?hd (cs := #[.bool a1_0, .slice A1_1 l1_1.length c1_1]) (t := 73) ?hr ?_; (case hd => rfl); (case hg => rfl); (case hr => first | (go_simp; done) | (go_simp; rfl)); intro gb657 hg w22 hbox hb; have n0_ := Aside0.mk (blk_below (g := gb656) (o := .cells #[.bool a0_0, .slice A0_1 l0_1.length c0_1] 73 (0, 0)) (by (with_reducible repeat (first | refine blk_drewN ?_ _ | refine blk_drew ?_ | refine blk_alloc ?_ _)); exact BK656.out) hb); have n1_ := Aside0.mk (below_step (by repeat (first | (with_reducible first | exact HB.out | apply below_alloc | apply pw_below_drewN | apply below_drew1 | refine below_set ?_ GE656.out) | exact HB.out)) hb); have n2_ := Aside0.mk (hbox); have n3_ := Aside0.mk ((by rw [hg]; exact (below_size (by repeat (first | (with_reducible first | exact HB.out | apply below_alloc | apply pw_below_drewN | apply below_drew1 | refine below_set ?_ GE656.out) | exact HB.out))) : w.heap.size ≤ gb657)); have n4_ := Aside0.mk ((by rw [hg]; exact (below_size (by repeat (first | (with_reducible first | exact HB.out | apply below_alloc | apply pw_below_drewN | apply below_drew1 | refine below_set ?_ GE656.out) | exact HB.out))) : w.heap.size ≤ gb657)); have n5_ := Aside0.mk ((by rw [hg]; exact Nat.ne_of_lt (blk_lt (g := gb656) (o := .cells #[.bool a0_0, .slice A0_1 l0_1.length c0_1] 73 (0, 0)) (by (with_reducible repeat (first | refine blk_drewN ?_ _ | refine blk_drew ?_ | refine blk_alloc ?_ _)); exact BK656.out)) : gb656 ≠ gb657)); have n6_ := Aside0.mk ((by rw [hg]; exact Nat.ne_of_gt (blk_lt (g := gb656) (o := .cells #[.bool a0_0, .slice A0_1 l0_1.length c0_1] 73 (0, 0)) (by (with_reducible repeat (first | refine blk_drewN ?_ _ | refine blk_drew ?_ | refine blk_alloc ?_ _)); exact BK656.out)) : gb657 ≠ gb656)); clear BK656; clear HB; have BK656 := n0_; have HB := n1_; have BK657 := n2_; have GW657 := n3_; have GE657 := n4_; have NB656_657 := n5_; have NB657_656 := n6_; clear n0_ n1_ n2_ n3_ n4_ n5_ n6_; clear hb hbox hg) | ((with_reducible refine gate_dst (N := 4) rfl ?_); refine box_event ?hg (N := 4) ?hd (cs := #[.bool false, .slice none 0 0]) (t := 73) ?hr ?_; (case hd => rfl); (case hg => rfl); (case hr => first | (go_simp; done) | (go_simp; rfl)); intro gb658 hg w23 hbox hb; have n0_ := Aside0.mk (blk_below (g := gb656) (o := .cells #[.bool a0_0, .slice A0_1 l0_1.length c0_1] 73 (0, 0)) (by (with_reducible repeat (first | refine blk_drewN ?_ _ | refine blk_drew ?_ | refine blk_alloc ?_ _)); exact BK656.out) hb); have n1_ := Aside0.mk (blk_below (g := gb657) (o := .cells #[.bool a1_0, .slice A1_1 l1_1.length c1_1] 73 (0, 0)) (by (with_reducible repeat (first | refine blk_drewN ?_ _ | refine blk_drew ?_ | refine blk_alloc ?_ _)); exact BK657.out) hb); have n2_ := Aside0.mk (below_step (by repeat (first | (with_reducible first | exact HB.out | apply below_alloc | apply pw_below_drewN | apply below_drew1 | refine below_set ?_ GE656.out | refine below_set ?_ GE657.out) | exact HB.out)) hb); have n3_ := Aside0.mk (hbox); have n4_ := Aside0.mk ((by rw [hg]; exact (below_size (by repeat (first | (with_reducible first | exact HB.out | apply below_alloc | apply pw_below_drewN | apply below_drew1 | refine below_set ?_ GE656.out | refine below_set ?_ GE657.out) | exact HB.out))) : w.heap.size ≤ gb658)); have n5_ := Aside0.mk ((by rw [hg]; exact (below_size (by repeat (first | (with_reducible first | exact HB.out | apply below_alloc | apply pw_below_drewN | apply below_drew1 | refine below_set ?_ GE656.out | refine below_set ?_ GE657.out) | exact HB.out))) : w.heap.size ≤ gb658)); have n6_ := Aside0.mk ((by rw [hg]; exact Nat.ne_of_lt (blk_lt (g := gb656) (o := .cells #[.bool a0_0, .slice A0_1 l0_1.length c0_1] 73 (0, 0)) (by (with_reducible repeat (first | refine blk_drewN ?_ _ | refine blk_drew ?_ | refine blk_alloc ?_ _)); exact BK656.out)) : gb656 ≠ gb658)); have n7_ := Aside0.mk ((by rw [hg]; exact Nat.ne_of_gt (blk_lt (g := gb656) (o := .cells #[.bool a0_0, .slice A0_1 l0_1.length c0_1] 73 (0, 0)) (by (with_reducible repeat (first | refine blk_drewN ?_ _ | refine blk_drew ?_ | refine blk_alloc ?_ _)); exact BK656.out)) : gb658 ≠ gb656)); have n8_ := Aside0.mk ((by rw [hg]; exact Nat.ne_of_lt (blk_lt (g := gb657) (o := .cells #[.bool a1_0, .slice A1_1 l1_1.length c1_1] 73 (0, 0)) (by (with_reducible repeat (first | refine blk_drewN ?_ _ | refine blk_drew ?_ | refine blk_alloc ?_ _)); exact BK657.out)) : gb657 ≠ gb658)); have n9_ := Aside0.mk ((by rw [hg]; exact Nat.ne_of_gt (blk_lt (g := gb657) (o := .cells #[.bool a1_0, .slice A1_1 l1_1.length c1_1] 73 (0, 0)) (by (with_reducible repeat (first | refine blk_drewN ?_ _ | refine blk_drew ?_ | refine blk_alloc ?_ _)); exact BK657.out)) : gb658 ≠ gb657)); clear BK656; clear BK657; clear HB; have BK656 := n0_; have BK657 := n1_; have HB := n2_; have BK658 := n3_; have GW658 := n4_; have GE658 := n5_; have NB656_658 := n6_; have NB658_656 := n7_; have NB657_658 := n8_; have NB658_657 := n9_; clear n0_ n1_ n2_ n3_ n4_ n5_ n6_ n7_ n8_ n9_; clear hb hbox hg; have hnb24 := NB656_657.out; have hnc24 := NB657_656.out; have hnb25 := NB656_658.out; have hnc25 := NB658_656.out; have hcz26_0 : w23.cell? ⟨gb656, 0, none⟩ = some (.bool a0_0) := (blk_cell BK656.out 0).trans rfl; have hcz26_1 : w23.cell? ⟨gb656, 1, none⟩ = some (.slice A0_1 l0_1.length c0_1) := (blk_cell BK656.out 1).trans rfl; have hfz26_0 := blk_frozen BK656.out 0; have hfz26_1 := blk_frozen BK656.out 1; have hnb27 := NB657_658.out; have hnc27 := NB658_657.out; have hcz28_0 : w23.cell? ⟨gb657, 0, none⟩ = some (.bool a1_0) := (blk_cell BK657.out 0).trans rfl; have hcz28_1 : w23.cell? ⟨gb657, 1, none⟩ = some (.slice A1_1 l1_1.length c1_1) := (blk_cell BK657.out 1).trans rfl; have hfz28_0 := blk_frozen BK657.out 0; have hfz28_1 := blk_frozen BK657.out 1) | ((with_reducible refine gate_callee (f := 80) rfl ?_); refine goesL_ (some 22) rfl rfl Tryz.func80 (by kernel_rfl) rfl #[.slice A0_1 l0_1.length c0_1, .slice A1_1 l1_1.length c1_1] rfl sqA ?_; (with_reducible refine (endonymref2_Cmp.calls k _ _ l0_1 _ _ l1_1 t662 _ ?side1 ?side2 ?side3 ?side4 A18.out).mono ?_); (case side1 => repeat (first | exact (Kd.C_below HR0_1.out HB.out) | (with_reducible refine Kd.C_alloc ?_ _) | (with_reducible refine Kd.C_drewN ?_ _) | (with_reducible refine Kd.C_drew ?_))); (case side2 => exact HC0_1.out); (case side3 => repeat (first | exact (Kd.C_below HR1_1.out HB.out) | (with_reducible refine Kd.C_alloc ?_ _) | (with_reducible refine Kd.C_drewN ?_ _) | (with_reducible refine Kd.C_drew ?_))); (case side4 => exact HC1_1.out); rintro e w' ⟨rfl, ⟨nd, rfl⟩⟩; refine ⟨_, rfl, ?_⟩; (try (rw [drewN_self w23]; generalize hq_ : World.drewN w23 _ = w23; have n0_ : Aside0 (w23.heap[gb656]? = some (.cells #[.bool a0_0, .slice A0_1 l0_1.length c0_1] 73 (0, 0))) := ⟨by rw [← hq_]; exact (by (with_reducible repeat (first | refine blk_drewN ?_ _ | refine blk_drew ?_ | refine blk_alloc ?_ _)); exact BK656.out)⟩; have n1_ : Aside0 (w23.heap[gb657]? = some (.cells #[.bool a1_0, .slice A1_1 l1_1.length c1_1] 73 (0, 0))) := ⟨by rw [← hq_]; exact (by (with_reducible repeat (first | refine blk_drewN ?_ _ | refine blk_drew ?_ | refine blk_alloc ?_ _)); exact BK657.out)⟩; have n2_ : Aside0 (w23.heap[gb658]? = some (.cells #[.bool false, .slice none 0 0] 73 (0, 0))) := ⟨by rw [← hq_]; exact (by (with_reducible repeat (first | refine blk_drewN ?_ _ | refine blk_drew ?_ | refine blk_alloc ?_ _)); exact BK658.out)⟩; have n3_ : Aside0 (Below w.heap.size w w23) := ⟨by rw [← hq_]; exact (by repeat (first | (with_reducible first | exact HB.out | apply below_alloc | apply pw_below_drewN | apply below_drew1 | refine below_set ?_ GE656.out | refine below_set ?_ GE657.out | refine below_set ?_ GE658.out) | exact HB.out))⟩; clear BK656 BK657 BK658 HB hq_; have BK656 := n0_; have BK657 := n1_; have BK658 := n2_; have HB := n3_; clear n0_ n1_ n2_ n3_))))
  have n0_ := Aside0.mk (blk_drew BK656.out)
  have n1_ := Aside0.mk (blk_drew BK657.out)
  have n2_ := Aside0.mk (blk_drew BK658.out)
  have n3_ := Aside0.mk (below_drew1 HB.out)
  clear BK656
  clear BK657
  clear BK658
  clear HB
  have BK656 := n0_
  have BK657 := n1_
  have BK658 := n2_
  have HB := n3_
  clear n0_ n1_ n2_ n3_
  refine start_ (n := 9) (S := fun w' => w'.cell? ⟨gb656, 0, none⟩ = some (.bool a0_0) ∧ w'.cell? ⟨gb656, 1, none⟩ = some (.slice A0_1 l0_1.length c0_1) ∧ w'.cell? ⟨gb657, 0, none⟩ = some (.bool a1_0) ∧ w'.cell? ⟨gb657, 1, none⟩ = some (.slice A1_1 l1_1.length c1_1)) (ds := []) #[false, false, false, false, false, false, false, false, false] (by kernel_rfl) rfl rfl ⟨(blk_cell BK656.out 0).trans rfl, (blk_cell BK656.out 1).trans rfl, (blk_cell BK657.out 0).trans rfl, (blk_cell BK657.out 1).trans rfl⟩ (fun hHeld => ?_); refine with_tabW endonymref2_plus.tab4 endonymref2_plus.bits4 (fun HT_ HW_ => ?_)
  generalize w23.drew = w29 at BK656 BK657 BK658 HB hHeld ⊢
  refine pure_ (i := 0) (N := some 24) (v := ?_) (a' := ?_) #[true, false, false, false, false, false, false, false, false] rfl rfl (any_of HT_.out (by kernel_rfl)) (fun _ _ _ h => h) (Or.inl ⟨by rfl, ?_⟩) ?_ ?_
  rotate_left
  ·intro w'
   go_simp
   with_reducible rfl
  rotate_left
  ·simp only [Act.put, List.setIfInBounds_toArray, List.set_cons_zero, List.set_cons_succ, i64_w, i32_w]
   rfl
  refine pure_ (i := 2) (N := some 26) (v := ?_) (a' := ?_) #[true, false, true, false, false, false, false, false, false] rfl rfl (any_of HT_.out (by kernel_rfl)) (fun _ _ _ h => h) (Or.inl ⟨by rfl, ?_⟩) ?_ ?_
  rotate_left
  ·intro w'
   go_simp
   with_reducible rfl
  rotate_left
  ·simp only [Act.put, List.setIfInBounds_toArray, List.set_cons_zero, List.set_cons_succ, i64_w, i32_w]
   rfl
  refine pure_ (i := 4) (N := some 28) (v := ?_) (a' := ?_) #[true, false, true, false, true, false, false, false, false] rfl rfl (any_of HT_.out (by kernel_rfl)) (fun _ _ _ h => h) (Or.inl ⟨by rfl, ?_⟩) ?_ ?_
  rotate_left
  ·intro w'
   go_simp
   with_reducible rfl
  rotate_left
  ·simp only [Act.put, List.setIfInBounds_toArray, List.set_cons_zero, List.set_cons_succ, i64_w, i32_w]
   rfl
  refine take_ (i := 1) (N := some 25) (v := ?_) (a' := ?_) #[true, true, true, false, true, false, false, false, false] rfl rfl (take_ofW HT_.out HW_.out (by kernel_rfl)) (fun _ _ _ h => h) (Or.inl ⟨by rfl, ?_⟩) hHeld ?_ ?_
  rotate_left
  ·rintro w' ⟨s0, s1, s2, s3⟩
   go_simp
   with_reducible rfl
  rotate_left
  ·simp only [Act.put, List.setIfInBounds_toArray, List.set_cons_zero, List.set_cons_succ, i64_w, i32_w]
   rfl
  refine take_ (i := 3) (N := some 27) (v := ?_) (a' := ?_) #[true, true, true, true, true, false, false, false, false] rfl rfl (take_ofW HT_.out HW_.out (by kernel_rfl)) (fun _ _ _ h => h) (Or.inl ⟨by rfl, ?_⟩) hHeld ?_ ?_
  rotate_left
  ·rintro w' ⟨s0, s1, s2, s3⟩
   go_simp
   with_reducible rfl
  rotate_left
  ·simp only [Act.put, List.setIfInBounds_toArray, List.set_cons_zero, List.set_cons_succ, i64_w, i32_w]
   rfl
  refine take_ (i := 5) (N := some 29) (v := ?_) (a' := ?_) #[true, true, true, true, true, true, false, false, false] rfl rfl (take_ofW HT_.out HW_.out (by kernel_rfl)) (fun _ _ _ h => h) (Or.inl ⟨by rfl, ?_⟩) hHeld ?_ ?_
  rotate_left
  ·rintro w' ⟨s0, s1, s2, s3⟩
   go_simp
   with_reducible rfl
  rotate_left
  ·simp only [Act.put, List.setIfInBounds_toArray, List.set_cons_zero, List.set_cons_succ, i64_w, i32_w]
   rfl
  refine one_ (i := 6) (N := some 30) #[true, true, true, true, true, true, true, false, false] rfl rfl (one_of HT_.out (by kernel_rfl)) (by decide) (fun K hK => ?_)
  refine goes_ Tryz.func98 (by kernel_rfl) rfl #[.slice A0_1 l0_1.length c0_1, .slice A1_1 l1_1.length c1_1] (by rfl) rfl rfl sqA ?_
  with_reducible refine (endonymref2_Less.calls k _ _ l0_1 _ _ l1_1 t663 _ ?side1 ?side2 ?side3 ?side4 A20.out).mono ?_
  (case side1 => repeat (first | exact (Kd.C_below HR0_1.out HB.out) | (with_reducible refine Kd.C_alloc ?_ _) | (with_reducible refine Kd.C_drewN ?_ _) | (with_reducible refine Kd.C_drew ?_)))
  (case side2 => exact HC0_1.out)
  (case side3 => repeat (first | exact (Kd.C_below HR1_1.out HB.out) | (with_reducible refine Kd.C_alloc ?_ _) | (with_reducible refine Kd.C_drewN ?_ _) | (with_reducible refine Kd.C_drew ?_)))
  (case side4 => exact HC1_1.out)
  rintro e w30 ⟨v664, rfl, ho0, hb⟩
  refine ⟨_, rfl, ?_⟩
  have n0_ := Aside0.mk (Kd.R_lower ho0 (below_size (by repeat (first | (with_reducible first | exact HB.out | apply below_alloc | apply pw_below_drewN | apply below_drew1 | refine below_set ?_ GE656.out | refine below_set ?_ GE657.out | refine below_set ?_ GE658.out) | exact HB.out))))
  have n1_ := Aside0.mk (blk_below (g := gb656) (o := .cells #[.bool a0_0, .slice A0_1 l0_1.length c0_1] 73 (0, 0)) (by (with_reducible repeat (first | refine blk_drewN ?_ _ | refine blk_drew ?_ | refine blk_alloc ?_ _)); exact BK656.out) hb)
  have n2_ := Aside0.mk (blk_below (g := gb657) (o := .cells #[.bool a1_0, .slice A1_1 l1_1.length c1_1] 73 (0, 0)) (by (with_reducible repeat (first | refine blk_drewN ?_ _ | refine blk_drew ?_ | refine blk_alloc ?_ _)); exact BK657.out) hb)
  have n3_ := Aside0.mk (blk_below (g := gb658) (o := .cells #[.bool false, .slice none 0 0] 73 (0, 0)) (by (with_reducible repeat (first | refine blk_drewN ?_ _ | refine blk_drew ?_ | refine blk_alloc ?_ _)); exact BK658.out) hb)
  have n4_ := Aside0.mk (below_step (by repeat (first | (with_reducible first | exact HB.out | apply below_alloc | apply pw_below_drewN | apply below_drew1 | refine below_set ?_ GE656.out | refine below_set ?_ GE657.out | refine below_set ?_ GE658.out) | exact HB.out)) hb)
  clear BK656
  clear BK657
  clear BK658
  clear HB
  have HO665 := n0_
  have BK656 := n1_
  have BK657 := n2_
  have BK658 := n3_
  have HB := n4_
  clear n0_ n1_ n2_ n3_ n4_
  (try clear hb)
  (try clear hb2)
  (try clear hk)
  (try clear hi)
  (try clear ho0)
  obtain ⟨Ao31, co31, eo31⟩ := Kd.R_slice HO665.out
  (first | subst eo31 | (injection eo31 with f1_ f2_ f3_; have f4_ := f1_.symm; have f5_ := f3_.symm; clear f1_ f2_ f3_; subst f4_; subst f5_))
  refine hK.out _ _ ⟨(blk_cell BK656.out 0).trans rfl, (blk_cell BK656.out 1).trans rfl, (blk_cell BK657.out 0).trans rfl, (blk_cell BK657.out 1).trans rfl⟩ (fun hHeld => ?_)
  clear hK K
  refine norm_ (a' := ?_) ?_ ?_
  rotate_left
  ·show Act.put _ (some 30) _ = _
   simp only [Act.put, List.setIfInBounds_toArray, List.set_cons_zero, List.set_cons_succ, i64_w, i32_w]
   rfl
  refine pure_ (i := 7) (N := some 31) (v := ?_) (a' := ?_) #[true, true, true, true, true, true, true, true, false] rfl rfl (any_of HT_.out (by kernel_rfl)) (fun _ _ _ h => h) (Or.inl ⟨by rfl, ?_⟩) ?_ ?_
  rotate_left
  ·intro w'
   go_simp
   with_reducible rfl
  rotate_left
  ·simp only [Act.put, List.setIfInBounds_toArray, List.set_cons_zero, List.set_cons_succ, i64_w, i32_w]
   rfl
  refine one_ (i := 8) (N := none) #[true, true, true, true, true, true, true, true, true] rfl rfl (one_of HT_.out (by kernel_rfl)) (by decide) (fun K hK => ?_)
  have hs32 : w30.cell? ⟨gb658, 0, none⟩ = some (.bool false) := (blk_cell BK658.out 0).trans rfl
  have hfs32 := blk_frozen BK658.out 0
  have hns32_0 := NB656_658.out
  have hns32_1 := NB657_658.out
  have hms32_0 := NB658_656.out
  have hms32_1 := NB658_657.out
  have hs33 : w30.cell? ⟨gb658, 1, none⟩ = some (.slice none 0 0) := (blk_cell BK658.out 1).trans rfl
  have hfs33 := blk_frozen BK658.out 1
  have hns33_0 := NB656_658.out
  have hns33_1 := NB657_658.out
  have hms33_0 := NB658_656.out
  have hms33_1 := NB658_657.out
  refine skip_ (w1 := ?_) (by rfl) rfl ?_ ?_
  rotate_left
  ·go_simp
   rfl
  refine hK.out _ _ ⟨((cell_far (p := ⟨gb658, _, none⟩) NB656_658.out _).trans (((cell_far (p := ⟨gb658, _, none⟩) NB656_658.out _).trans (hHeld.1)))), ((cell_far (p := ⟨gb658, _, none⟩) NB656_658.out _).trans (((cell_far (p := ⟨gb658, _, none⟩) NB656_658.out _).trans (hHeld.2.1)))), ((cell_far (p := ⟨gb658, _, none⟩) NB657_658.out _).trans (((cell_far (p := ⟨gb658, _, none⟩) NB657_658.out _).trans (hHeld.2.2.1)))), ((cell_far (p := ⟨gb658, _, none⟩) NB657_658.out _).trans (((cell_far (p := ⟨gb658, _, none⟩) NB657_658.out _).trans (hHeld.2.2.2))))⟩ (fun hHeld => ?_)
  clear hK K
  refine done_ (done_of HT_.out (by kernel_rfl)) ?_
  try go_wp2
  refine bodyPost_ret (results_cell_row rfl _ _ gb658 73 #[.bool a0_0, .slice Ao31 t663.length co31] (0, 0) _ rfl (by (with_reducible repeat (first | refine blk_drewN ?_ _ | refine blk_drew ?_ | refine blk_alloc ?_ _)); refine blk_put (cs := #[.bool a0_0, .slice none 0 0]) ?_ 1 _ rfl; (with_reducible repeat (first | refine blk_drewN ?_ _ | refine blk_drew ?_ | refine blk_alloc ?_ _)); refine blk_put (cs := #[.bool false, .slice none 0 0]) ?_ 0 _ rfl; (with_reducible repeat (first | refine blk_drewN ?_ _ | refine blk_drew ?_ | refine blk_alloc ?_ _)); exact BK658.out) Tryz.underlying73 rfl (by kernel_rfl)) rfl ?_
  exact ⟨_, sqE', by (with_reducible repeat (first | apply Kd.R_alloc | apply Kd.R_drewN | apply Kd.R_drew)); exact Kd.R_mono (Kd.R_far (p := ⟨gb658, 1, none⟩) (Kd.R_far (p := ⟨gb658, 0, none⟩) (Kd.R_types HO665.out BK658.out (by decide)) (fun _ hk => hk.2) (.bool a0_0)) (fun _ hk => hk.2) (.slice Ao31 t663.length co31)) (fun _ hk => trivial), by repeat (first | (with_reducible first | exact HB.out | apply below_alloc | apply pw_below_drewN | apply below_drew1 | refine below_set ?_ GE656.out | refine below_set ?_ GE657.out | refine below_set ?_ GE658.out) | exact HB.out)⟩
 rw [if_neg c19] at H
 have c19b0 := decide_eq_false c19
 clear c19
 obtain ⟨t666, A34, H⟩ := sqO H
 try dsimp only at H
 simp only [Option.some.injEq, Prod.mk.injEq] at H
 obtain ⟨rfl, rfl⟩ := H
 go_enter Tryz.func84, Tryz.ntmps84
 try go_wp2_with (first | ((with_reducible refine gate_dst (N := 2) rfl ?_); refine box_event ?hg (N := 2) ?hd (cs := #[.bool a0_0, .slice A0_1 l0_1.length c0_1]) (t := 73) ?hr ?_; (case hd => rfl); (case hg => rfl); (case hr => first | (go_simp; done) | (go_simp; rfl)); intro gb656 hg w35 hbox hb; have n0_ := Aside0.mk (below_step sqB hb); have n1_ := Aside0.mk (hbox); have n2_ := Aside0.mk ((by rw [hg]; exact (below_size sqB) : w.heap.size ≤ gb656)); have n3_ := Aside0.mk ((by rw [hg]; exact (below_size sqB) : w.heap.size ≤ gb656)); clear HB; have HB := n0_; have BK656 := n1_; have GW656 := n2_; have GE656 := n3_; clear n0_ n1_ n2_ n3_; clear hb hbox hg) | ((with_reducible refine gate_dst (N := 3) rfl ?_); refine box_event ?hg (N := 3) ?hd (cs := #[.bool a1_0, .slice A1_1 l1_1.length c1_1]) (t := 73) ?hr ?_; (case hd => rfl); (case hg => rfl); (case hr => first | (go_simp; done) | (go_simp; rfl)); intro gb657 hg w36 hbox hb; have n0_ := Aside0.mk (blk_below (g := gb656) (o := .cells #[.bool a0_0, .slice A0_1 l0_1.length c0_1] 73 (0, 0)) (by (with_reducible repeat (first | refine blk_drewN ?_ _ | refine blk_drew ?_ | refine blk_alloc ?_ _)); exact BK656.out) hb); have n1_ := Aside0.mk (below_step (by repeat (first | (with_reducible first | exact HB.out | apply below_alloc | apply pw_below_drewN | apply below_drew1 | refine below_set ?_ GE656.out) | exact HB.out)) hb); have n2_ := Aside0.mk (hbox); have n3_ := Aside0.mk ((by rw [hg]; exact (below_size (by repeat (first | (with_reducible first | exact HB.out | apply below_alloc | apply pw_below_drewN | apply below_drew1 | refine below_set ?_ GE656.out) | exact HB.out))) : w.heap.size ≤ gb657)); have n4_ := Aside0.mk ((by rw [hg]; exact (below_size (by repeat (first | (with_reducible first | exact HB.out | apply below_alloc | apply pw_below_drewN | apply below_drew1 | refine below_set ?_ GE656.out) | exact HB.out))) : w.heap.size ≤ gb657)); have n5_ := Aside0.mk ((by rw [hg]; exact Nat.ne_of_lt (blk_lt (g := gb656) (o := .cells #[.bool a0_0, .slice A0_1 l0_1.length c0_1] 73 (0, 0)) (by (with_reducible repeat (first | refine blk_drewN ?_ _ | refine blk_drew ?_ | refine blk_alloc ?_ _)); exact BK656.out)) : gb656 ≠ gb657)); have n6_ := Aside0.mk ((by rw [hg]; exact Nat.ne_of_gt (blk_lt (g := gb656) (o := .cells #[.bool a0_0, .slice A0_1 l0_1.length c0_1] 73 (0, 0)) (by (with_reducible repeat (first | refine blk_drewN ?_ _ | refine blk_drew ?_ | refine blk_alloc ?_ _)); exact BK656.out)) : gb657 ≠ gb656)); clear BK656; clear HB; have BK656 := n0_; have HB := n1_; have BK657 := n2_; have GW657 := n3_; have GE657 := n4_; have NB656_657 := n5_; have NB657_656 := n6_; clear n0_ n1_ n2_ n3_ n4_ n5_ n6_; clear hb hbox hg) | ((with_reducible refine gate_dst (N := 4) rfl ?_); refine box_event ?hg (N := 4) ?hd (cs := #[.bool false, .slice none 0 0]) (t := 73) ?hr ?_; (case hd => rfl); (case hg => rfl); (case hr => first | (go_simp; done) | (go_simp; rfl)); intro gb658 hg w37 hbox hb; have n0_ := Aside0.mk (blk_below (g := gb656) (o := .cells #[.bool a0_0, .slice A0_1 l0_1.length c0_1] 73 (0, 0)) (by (with_reducible repeat (first | refine blk_drewN ?_ _ | refine blk_drew ?_ | refine blk_alloc ?_ _)); exact BK656.out) hb); have n1_ := Aside0.mk (blk_below (g := gb657) (o := .cells #[.bool a1_0, .slice A1_1 l1_1.length c1_1] 73 (0, 0)) (by (with_reducible repeat (first | refine blk_drewN ?_ _ | refine blk_drew ?_ | refine blk_alloc ?_ _)); exact BK657.out) hb); have n2_ := Aside0.mk (below_step (by repeat (first | (with_reducible first | exact HB.out | apply below_alloc | apply pw_below_drewN | apply below_drew1 | refine below_set ?_ GE656.out | refine below_set ?_ GE657.out) | exact HB.out)) hb); have n3_ := Aside0.mk (hbox); have n4_ := Aside0.mk ((by rw [hg]; exact (below_size (by repeat (first | (with_reducible first | exact HB.out | apply below_alloc | apply pw_below_drewN | apply below_drew1 | refine below_set ?_ GE656.out | refine below_set ?_ GE657.out) | exact HB.out))) : w.heap.size ≤ gb658)); have n5_ := Aside0.mk ((by rw [hg]; exact (below_size (by repeat (first | (with_reducible first | exact HB.out | apply below_alloc | apply pw_below_drewN | apply below_drew1 | refine below_set ?_ GE656.out | refine below_set ?_ GE657.out) | exact HB.out))) : w.heap.size ≤ gb658)); have n6_ := Aside0.mk ((by rw [hg]; exact Nat.ne_of_lt (blk_lt (g := gb656) (o := .cells #[.bool a0_0, .slice A0_1 l0_1.length c0_1] 73 (0, 0)) (by (with_reducible repeat (first | refine blk_drewN ?_ _ | refine blk_drew ?_ | refine blk_alloc ?_ _)); exact BK656.out)) : gb656 ≠ gb658)); have n7_ := Aside0.mk ((by rw [hg]; exact Nat.ne_of_gt (blk_lt (g := gb656) (o := .cells #[.bool a0_0, .slice A0_1 l0_1.length c0_1] 73 (0, 0)) (by (with_reducible repeat (first | refine blk_drewN ?_ _ | refine blk_drew ?_ | refine blk_alloc ?_ _)); exact BK656.out)) : gb658 ≠ gb656)); have n8_ := Aside0.mk ((by rw [hg]; exact Nat.ne_of_lt (blk_lt (g := gb657) (o := .cells #[.bool a1_0, .slice A1_1 l1_1.length c1_1] 73 (0, 0)) (by (with_reducible repeat (first | refine blk_drewN ?_ _ | refine blk_drew ?_ | refine blk_alloc ?_ _)); exact BK657.out)) : gb657 ≠ gb658)); have n9_ := Aside0.mk ((by rw [hg]; exact Nat.ne_of_gt (blk_lt (g := gb657) (o := .cells #[.bool a1_0, .slice A1_1 l1_1.length c1_1] 73 (0, 0)) (by (with_reducible repeat (first | refine blk_drewN ?_ _ | refine blk_drew ?_ | refine blk_alloc ?_ _)); exact BK657.out)) : gb658 ≠ gb657)); clear BK656; clear BK657; clear HB; have BK656 := n0_; have BK657 := n1_; have HB := n2_; have BK658 := n3_; have GW658 := n4_; have GE658 := n5_; have NB656_658 := n6_; have NB658_656 := n7_; have NB657_658 := n8_; have NB658_657 := n9_; clear n0_ n1_ n2_ n3_ n4_ n5_ n6_ n7_ n8_ n9_; clear hb hbox hg; have hnb38 := NB656_657.out; have hnc38 := NB657_656.out; have hnb39 := NB656_658.out; have hnc39 := NB658_656.out; have hcz40_0 : w37.cell? ⟨gb656, 0, none⟩ = some (.bool a0_0) := (blk_cell BK656.out 0).trans rfl; have hcz40_1 : w37.cell? ⟨gb656, 1, none⟩ = some (.slice A0_1 l0_1.length c0_1) := (blk_cell BK656.out 1).trans rfl; have hfz40_0 := blk_frozen BK656.out 0; have hfz40_1 := blk_frozen BK656.out 1; have hnb41 := NB657_658.out; have hnc41 := NB658_657.out; have hcz42_0 : w37.cell? ⟨gb657, 0, none⟩ = some (.bool a1_0) := (blk_cell BK657.out 0).trans rfl; have hcz42_1 : w37.cell? ⟨gb657, 1, none⟩ = some (.slice A1_1 l1_1.length c1_1) := (blk_cell BK657.out 1).trans rfl; have hfz42_0 := blk_frozen BK657.out 0; have hfz42_1 := blk_frozen BK657.out 1) | ((with_reducible refine gate_callee (f := 80) rfl ?_); refine goesL_ (some 22) rfl rfl Tryz.func80 (by kernel_rfl) rfl #[.slice A0_1 l0_1.length c0_1, .slice A1_1 l1_1.length c1_1] rfl sqA ?_; (with_reducible refine (endonymref2_Cmp.calls k _ _ l0_1 _ _ l1_1 t662 _ ?side1 ?side2 ?side3 ?side4 A18.out).mono ?_); (case side1 => repeat (first | exact (Kd.C_below HR0_1.out HB.out) | (with_reducible refine Kd.C_alloc ?_ _) | (with_reducible refine Kd.C_drewN ?_ _) | (with_reducible refine Kd.C_drew ?_))); (case side2 => exact HC0_1.out); (case side3 => repeat (first | exact (Kd.C_below HR1_1.out HB.out) | (with_reducible refine Kd.C_alloc ?_ _) | (with_reducible refine Kd.C_drewN ?_ _) | (with_reducible refine Kd.C_drew ?_))); (case side4 => exact HC1_1.out); rintro e w' ⟨rfl, ⟨nd, rfl⟩⟩; refine ⟨_, rfl, ?_⟩; (try (rw [drewN_self w37]; generalize hq_ : World.drewN w37 _ = w37; have n0_ : Aside0 (w37.heap[gb656]? = some (.cells #[.bool a0_0, .slice A0_1 l0_1.length c0_1] 73 (0, 0))) := ⟨by rw [← hq_]; exact (by (with_reducible repeat (first | refine blk_drewN ?_ _ | refine blk_drew ?_ | refine blk_alloc ?_ _)); exact BK656.out)⟩; have n1_ : Aside0 (w37.heap[gb657]? = some (.cells #[.bool a1_0, .slice A1_1 l1_1.length c1_1] 73 (0, 0))) := ⟨by rw [← hq_]; exact (by (with_reducible repeat (first | refine blk_drewN ?_ _ | refine blk_drew ?_ | refine blk_alloc ?_ _)); exact BK657.out)⟩; have n2_ : Aside0 (w37.heap[gb658]? = some (.cells #[.bool false, .slice none 0 0] 73 (0, 0))) := ⟨by rw [← hq_]; exact (by (with_reducible repeat (first | refine blk_drewN ?_ _ | refine blk_drew ?_ | refine blk_alloc ?_ _)); exact BK658.out)⟩; have n3_ : Aside0 (Below w.heap.size w w37) := ⟨by rw [← hq_]; exact (by repeat (first | (with_reducible first | exact HB.out | apply below_alloc | apply pw_below_drewN | apply below_drew1 | refine below_set ?_ GE656.out | refine below_set ?_ GE657.out | refine below_set ?_ GE658.out) | exact HB.out))⟩; clear BK656 BK657 BK658 HB hq_; have BK656 := n0_; have BK657 := n1_; have BK658 := n2_; have HB := n3_; clear n0_ n1_ n2_ n3_))))
 have n0_ := Aside0.mk (blk_drew BK656.out)
 have n1_ := Aside0.mk (blk_drew BK657.out)
 have n2_ := Aside0.mk (blk_drew BK658.out)
 have n3_ := Aside0.mk (below_drew1 HB.out)
 clear BK656
 clear BK657
 clear BK658
 clear HB
 have BK656 := n0_
 have BK657 := n1_
 have BK658 := n2_
 have HB := n3_
 clear n0_ n1_ n2_ n3_
 refine start_ (n := 9) (S := fun w' => w'.cell? ⟨gb657, 0, none⟩ = some (.bool a1_0) ∧ w'.cell? ⟨gb657, 1, none⟩ = some (.slice A1_1 l1_1.length c1_1) ∧ w'.cell? ⟨gb656, 0, none⟩ = some (.bool a0_0) ∧ w'.cell? ⟨gb656, 1, none⟩ = some (.slice A0_1 l0_1.length c0_1)) (ds := []) #[false, false, false, false, false, false, false, false, false] (by kernel_rfl) rfl rfl ⟨(blk_cell BK657.out 0).trans rfl, (blk_cell BK657.out 1).trans rfl, (blk_cell BK656.out 0).trans rfl, (blk_cell BK656.out 1).trans rfl⟩ (fun hHeld => ?_); refine with_tabW endonymref2_plus.tab5 endonymref2_plus.bits5 (fun HT_ HW_ => ?_)
 generalize w37.drew = w43 at BK656 BK657 BK658 HB hHeld ⊢
 refine pure_ (i := 0) (N := some 32) (v := ?_) (a' := ?_) #[true, false, false, false, false, false, false, false, false] rfl rfl (any_of HT_.out (by kernel_rfl)) (fun _ _ _ h => h) (Or.inl ⟨by rfl, ?_⟩) ?_ ?_
 rotate_left
 ·intro w'
  go_simp
  with_reducible rfl
 rotate_left
 ·simp only [Act.put, List.setIfInBounds_toArray, List.set_cons_zero, List.set_cons_succ, i64_w, i32_w]
  rfl
 refine pure_ (i := 2) (N := some 34) (v := ?_) (a' := ?_) #[true, false, true, false, false, false, false, false, false] rfl rfl (any_of HT_.out (by kernel_rfl)) (fun _ _ _ h => h) (Or.inl ⟨by rfl, ?_⟩) ?_ ?_
 rotate_left
 ·intro w'
  go_simp
  with_reducible rfl
 rotate_left
 ·simp only [Act.put, List.setIfInBounds_toArray, List.set_cons_zero, List.set_cons_succ, i64_w, i32_w]
  rfl
 refine pure_ (i := 4) (N := some 36) (v := ?_) (a' := ?_) #[true, false, true, false, true, false, false, false, false] rfl rfl (any_of HT_.out (by kernel_rfl)) (fun _ _ _ h => h) (Or.inl ⟨by rfl, ?_⟩) ?_ ?_
 rotate_left
 ·intro w'
  go_simp
  with_reducible rfl
 rotate_left
 ·simp only [Act.put, List.setIfInBounds_toArray, List.set_cons_zero, List.set_cons_succ, i64_w, i32_w]
  rfl
 refine take_ (i := 1) (N := some 33) (v := ?_) (a' := ?_) #[true, true, true, false, true, false, false, false, false] rfl rfl (take_ofW HT_.out HW_.out (by kernel_rfl)) (fun _ _ _ h => h) (Or.inl ⟨by rfl, ?_⟩) hHeld ?_ ?_
 rotate_left
 ·rintro w' ⟨s0, s1, s2, s3⟩
  go_simp
  with_reducible rfl
 rotate_left
 ·simp only [Act.put, List.setIfInBounds_toArray, List.set_cons_zero, List.set_cons_succ, i64_w, i32_w]
  rfl
 refine take_ (i := 3) (N := some 35) (v := ?_) (a' := ?_) #[true, true, true, true, true, false, false, false, false] rfl rfl (take_ofW HT_.out HW_.out (by kernel_rfl)) (fun _ _ _ h => h) (Or.inl ⟨by rfl, ?_⟩) hHeld ?_ ?_
 rotate_left
 ·rintro w' ⟨s0, s1, s2, s3⟩
  go_simp
  with_reducible rfl
 rotate_left
 ·simp only [Act.put, List.setIfInBounds_toArray, List.set_cons_zero, List.set_cons_succ, i64_w, i32_w]
  rfl
 refine take_ (i := 5) (N := some 37) (v := ?_) (a' := ?_) #[true, true, true, true, true, true, false, false, false] rfl rfl (take_ofW HT_.out HW_.out (by kernel_rfl)) (fun _ _ _ h => h) (Or.inl ⟨by rfl, ?_⟩) hHeld ?_ ?_
 rotate_left
 ·rintro w' ⟨s0, s1, s2, s3⟩
  go_simp
  with_reducible rfl
 rotate_left
 ·simp only [Act.put, List.setIfInBounds_toArray, List.set_cons_zero, List.set_cons_succ, i64_w, i32_w]
  rfl
 refine one_ (i := 6) (N := some 38) #[true, true, true, true, true, true, true, false, false] rfl rfl (one_of HT_.out (by kernel_rfl)) (by decide) (fun K hK => ?_)
 refine goes_ Tryz.func98 (by kernel_rfl) rfl #[.slice A1_1 l1_1.length c1_1, .slice A0_1 l0_1.length c0_1] (by rfl) rfl rfl sqA ?_
 with_reducible refine (endonymref2_Less.calls k _ _ l1_1 _ _ l0_1 t666 _ ?side1 ?side2 ?side3 ?side4 A34.out).mono ?_
 (case side1 => repeat (first | exact (Kd.C_below HR1_1.out HB.out) | (with_reducible refine Kd.C_alloc ?_ _) | (with_reducible refine Kd.C_drewN ?_ _) | (with_reducible refine Kd.C_drew ?_)))
 (case side2 => exact HC1_1.out)
 (case side3 => repeat (first | exact (Kd.C_below HR0_1.out HB.out) | (with_reducible refine Kd.C_alloc ?_ _) | (with_reducible refine Kd.C_drewN ?_ _) | (with_reducible refine Kd.C_drew ?_)))
 (case side4 => exact HC0_1.out)
 rintro e w44 ⟨v667, rfl, ho0, hb⟩
 refine ⟨_, rfl, ?_⟩
 have n0_ := Aside0.mk (Kd.R_lower ho0 (below_size (by repeat (first | (with_reducible first | exact HB.out | apply below_alloc | apply pw_below_drewN | apply below_drew1 | refine below_set ?_ GE656.out | refine below_set ?_ GE657.out | refine below_set ?_ GE658.out) | exact HB.out))))
 have n1_ := Aside0.mk (blk_below (g := gb656) (o := .cells #[.bool a0_0, .slice A0_1 l0_1.length c0_1] 73 (0, 0)) (by (with_reducible repeat (first | refine blk_drewN ?_ _ | refine blk_drew ?_ | refine blk_alloc ?_ _)); exact BK656.out) hb)
 have n2_ := Aside0.mk (blk_below (g := gb657) (o := .cells #[.bool a1_0, .slice A1_1 l1_1.length c1_1] 73 (0, 0)) (by (with_reducible repeat (first | refine blk_drewN ?_ _ | refine blk_drew ?_ | refine blk_alloc ?_ _)); exact BK657.out) hb)
 have n3_ := Aside0.mk (blk_below (g := gb658) (o := .cells #[.bool false, .slice none 0 0] 73 (0, 0)) (by (with_reducible repeat (first | refine blk_drewN ?_ _ | refine blk_drew ?_ | refine blk_alloc ?_ _)); exact BK658.out) hb)
 have n4_ := Aside0.mk (below_step (by repeat (first | (with_reducible first | exact HB.out | apply below_alloc | apply pw_below_drewN | apply below_drew1 | refine below_set ?_ GE656.out | refine below_set ?_ GE657.out | refine below_set ?_ GE658.out) | exact HB.out)) hb)
 clear BK656
 clear BK657
 clear BK658
 clear HB
 have HO668 := n0_
 have BK656 := n1_
 have BK657 := n2_
 have BK658 := n3_
 have HB := n4_
 clear n0_ n1_ n2_ n3_ n4_
 (try clear hb)
 (try clear hb2)
 (try clear hk)
 (try clear hi)
 (try clear ho0)
 obtain ⟨Ao45, co45, eo45⟩ := Kd.R_slice HO668.out
 (first | subst eo45 | (injection eo45 with f1_ f2_ f3_; have f4_ := f1_.symm; have f5_ := f3_.symm; clear f1_ f2_ f3_; subst f4_; subst f5_))
 refine hK.out _ _ ⟨(blk_cell BK657.out 0).trans rfl, (blk_cell BK657.out 1).trans rfl, (blk_cell BK656.out 0).trans rfl, (blk_cell BK656.out 1).trans rfl⟩ (fun hHeld => ?_)
 clear hK K
 refine norm_ (a' := ?_) ?_ ?_
 rotate_left
 ·show Act.put _ (some 38) _ = _
  simp only [Act.put, List.setIfInBounds_toArray, List.set_cons_zero, List.set_cons_succ, i64_w, i32_w]
  rfl
 refine pure_ (i := 7) (N := some 39) (v := ?_) (a' := ?_) #[true, true, true, true, true, true, true, true, false] rfl rfl (any_of HT_.out (by kernel_rfl)) (fun _ _ _ h => h) (Or.inl ⟨by rfl, ?_⟩) ?_ ?_
 rotate_left
 ·intro w'
  go_simp
  with_reducible rfl
 rotate_left
 ·simp only [Act.put, List.setIfInBounds_toArray, List.set_cons_zero, List.set_cons_succ, i64_w, i32_w]
  rfl
 refine one_ (i := 8) (N := none) #[true, true, true, true, true, true, true, true, true] rfl rfl (one_of HT_.out (by kernel_rfl)) (by decide) (fun K hK => ?_)
 have hs46 : w44.cell? ⟨gb658, 0, none⟩ = some (.bool false) := (blk_cell BK658.out 0).trans rfl
 have hfs46 := blk_frozen BK658.out 0
 have hns46_0 := NB656_658.out
 have hns46_1 := NB657_658.out
 have hms46_0 := NB658_656.out
 have hms46_1 := NB658_657.out
 have hs47 : w44.cell? ⟨gb658, 1, none⟩ = some (.slice none 0 0) := (blk_cell BK658.out 1).trans rfl
 have hfs47 := blk_frozen BK658.out 1
 have hns47_0 := NB656_658.out
 have hns47_1 := NB657_658.out
 have hms47_0 := NB658_656.out
 have hms47_1 := NB658_657.out
 refine skip_ (w1 := ?_) (by rfl) rfl ?_ ?_
 rotate_left
 ·go_simp
  rfl
 refine hK.out _ _ ⟨((cell_far (p := ⟨gb658, _, none⟩) NB657_658.out _).trans (((cell_far (p := ⟨gb658, _, none⟩) NB657_658.out _).trans (hHeld.1)))), ((cell_far (p := ⟨gb658, _, none⟩) NB657_658.out _).trans (((cell_far (p := ⟨gb658, _, none⟩) NB657_658.out _).trans (hHeld.2.1)))), ((cell_far (p := ⟨gb658, _, none⟩) NB656_658.out _).trans (((cell_far (p := ⟨gb658, _, none⟩) NB656_658.out _).trans (hHeld.2.2.1)))), ((cell_far (p := ⟨gb658, _, none⟩) NB656_658.out _).trans (((cell_far (p := ⟨gb658, _, none⟩) NB656_658.out _).trans (hHeld.2.2.2))))⟩ (fun hHeld => ?_)
 clear hK K
 refine done_ (done_of HT_.out (by kernel_rfl)) ?_
 try go_wp2
 refine bodyPost_ret (results_cell_row rfl _ _ gb658 73 #[.bool a1_0, .slice Ao45 t666.length co45] (0, 0) _ rfl (by (with_reducible repeat (first | refine blk_drewN ?_ _ | refine blk_drew ?_ | refine blk_alloc ?_ _)); refine blk_put (cs := #[.bool a1_0, .slice none 0 0]) ?_ 1 _ rfl; (with_reducible repeat (first | refine blk_drewN ?_ _ | refine blk_drew ?_ | refine blk_alloc ?_ _)); refine blk_put (cs := #[.bool false, .slice none 0 0]) ?_ 0 _ rfl; (with_reducible repeat (first | refine blk_drewN ?_ _ | refine blk_drew ?_ | refine blk_alloc ?_ _)); exact BK658.out) Tryz.underlying73 rfl (by kernel_rfl)) rfl ?_
 exact ⟨_, sqE', by (with_reducible repeat (first | apply Kd.R_alloc | apply Kd.R_drewN | apply Kd.R_drew)); exact Kd.R_mono (Kd.R_far (p := ⟨gb658, 1, none⟩) (Kd.R_far (p := ⟨gb658, 0, none⟩) (Kd.R_types HO668.out BK658.out (by decide)) (fun _ hk => hk.2) (.bool a1_0)) (fun _ hk => hk.2) (.slice Ao45 t666.length co45)) (fun _ hk => trivial), by repeat (first | (with_reducible first | exact HB.out | apply below_alloc | apply pw_below_drewN | apply below_drew1 | refine below_set ?_ GE656.out | refine below_set ?_ GE657.out | refine below_set ?_ GE658.out) | exact HB.out)⟩
end Go.Proofs.YtfmjdoofopamkaaGreatDoor.W
