-- written by wip/pp.py of this session (the kit's print with patches); checked by Lean alone
import Derived.Test.YtfmjdoofopamkaaGreatDoorWx0
import Derived.Test.YtfmjdoofopamkaaGreatDoorWx8
import Derived.Test.YtfmjdoofopamkaaGreatDoorWx9
namespace Go.Proofs.YtfmjdoofopamkaaGreatDoor.W
open Go.RowKit Go.Proofs.YtfmjdoofopamkaaGreatDoorW.PrintWords Go.Proofs.YtfmjdoofopamkaaGreatDoorW.PrintLast Go.Proofs.YtfmjdoofopamkaaGreatDoorW.PrintMore
attribute [local go_sem] max2_int min2_int max_two min_two max_three min_three max_four min_four   -- for this text's walks alone
set_option linter.unusedVariables false
set_option linter.unusedSimpArgs false

/-! ### endonymref2_plus: function 84 -/
def endonymref2_plus.f (k : Nat) (a0_0 : Bool) (l0_1 : List Int) (a1_0 : Bool) (l1_1 : List Int) : Option (Bool × List Int) := if (a0_0 == a1_0) = true then ((endonymref2_Plus.f k l0_1 l1_1).bind fun t711 => (some (a0_0, t711))) else ((endonymref2_Cmp.f k l0_1 l1_1).bind fun t714 => (if t714 ≥ 0 then ((endonymref2_Less.f k l0_1 l1_1).bind fun t715 => (some (a0_0, t715))) else ((endonymref2_Less.f k l1_1 l0_1).bind fun t718 => (some (a1_0, t718)))))
theorem endonymref2_plus.mono : ∀ a0 a1 a2 a3 k, LeO (endonymref2_plus.f k a0 a1 a2 a3) (endonymref2_plus.f (k + 1) a0 a1 a2 a3) := by
 intro a0 a1 a2 a3 k
 unfold endonymref2_plus.f
 repeat' first | (with_reducible first | apply endonymref2_Cmp.mono | apply endonymref2_Less.mono | apply endonymref2_Plus.mono | apply LeO.refl | apply LeO.none | refine LeO.ite ?_ ?_ | refine LeO.bind ?_ (fun _ => ?_)) | apply endonymref2_Cmp.mono | apply endonymref2_Less.mono | apply endonymref2_Plus.mono | apply LeO.none | refine LeO.ite ?_ ?_ | refine LeO.bind ?_ (fun _ => ?_)
def endonymref2_plus.T2 : Bool × List (List Nat × List Nat) := (true, [([], []), ([0], [0]), ([], []), ([2], [2]), ([], []), ([4], [4]), ([3, 5], [3, 5]), ([1, 6], [1, 6]), ([7, 6, 0, 1, 2, 3, 4, 5, 6, 7], [7])])
def endonymref2_plus.B2 : List Nat := [0, 1, 0, 4, 0, 16, 60, 127, 255]
theorem endonymref2_plus.tab2 : rtab .any (opsOf Tryz.f84 2) = endonymref2_plus.T2 := by kernel_rfl
theorem endonymref2_plus.bits2 : waitsOk endonymref2_plus.T2.2 endonymref2_plus.B2 = true := by kernel_rfl
def endonymref2_plus.T4 : Bool × List (List Nat × List Nat) := (true, [([], []), ([0], [0]), ([], []), ([2], [2]), ([], []), ([4], [4]), ([3, 5], [3, 5]), ([1, 6], [1, 6]), ([7, 6, 0, 1, 2, 3, 4, 5, 6, 7], [7])])
def endonymref2_plus.B4 : List Nat := [0, 1, 0, 4, 0, 16, 60, 127, 255]
theorem endonymref2_plus.tab4 : rtab .any (opsOf Tryz.f84 4) = endonymref2_plus.T4 := by kernel_rfl
theorem endonymref2_plus.bits4 : waitsOk endonymref2_plus.T4.2 endonymref2_plus.B4 = true := by kernel_rfl
def endonymref2_plus.T5 : Bool × List (List Nat × List Nat) := (true, [([], []), ([0], [0]), ([], []), ([2], [2]), ([], []), ([4], [4]), ([3, 5], [3, 5]), ([1, 6], [1, 6]), ([7, 6, 0, 1, 2, 3, 4, 5, 6, 7], [7])])
def endonymref2_plus.B5 : List Nat := [0, 1, 0, 4, 0, 16, 60, 127, 255]
theorem endonymref2_plus.tab5 : rtab .any (opsOf Tryz.f84 5) = endonymref2_plus.T5 := by kernel_rfl
theorem endonymref2_plus.bits5 : waitsOk endonymref2_plus.T5.2 endonymref2_plus.B5 = true := by kernel_rfl
set_option maxHeartbeats 8000000 in
set_option maxRecDepth 100000 in
theorem endonymref2_plus.calls (k : Nat) (a0_0 : Bool) (A0_1 : Option Addr) (c0_1 : Nat) (l0_1 : List Int) (a1_0 : Bool) (A1_1 : Option Addr) (c1_1 : Nat) (l1_1 : List Int) (r1 : Bool) (r2 : List Int) (w : World) (hr0_1 : Kd.C (Kd.int .u32) w A0_1 l0_1.length l0_1) (hc0_1 : l0_1.length ≤ c0_1) (hr1_1 : Kd.C (Kd.int .u32) w A1_1 l1_1.length l1_1) (hc1_1 : l1_1.length ≤ c1_1) (h : endonymref2_plus.f k a0_0 l0_1 a1_0 l1_1 = some (r1, r2)) :
  Calls Tryz.prog 84 #[.agg #[.bool a0_0, .slice A0_1 l0_1.length c0_1], .agg #[.bool a1_0, .slice A1_1 l1_1.length c1_1]] w fun e w' => ∃ v1_ : Value, e = .returned (.agg #[.bool r1, v1_]) ∧ Kd.R (Kd.int .u32) 83 w' w.heap.size (fun _ => True) v1_ r2 ∧ Below w.heap.size w w' := by
 have hu73 := Tryz.underlying73
 have HR0_1 := Aside0.mk hr0_1
 have HC0_1 := Aside0.mk hc0_1
 clear hr0_1 hc0_1
 have HR1_1 := Aside0.mk hr1_1
 have HC1_1 := Aside0.mk hc1_1
 clear hr1_1 hc1_1
 have HB := Aside0.mk (Below.refl w.heap.size w)
 have H : (if (a0_0 == a1_0) = true then ((endonymref2_Plus.f k l0_1 l1_1).bind fun t711 => (some (a0_0, t711))) else ((endonymref2_Cmp.f k l0_1 l1_1).bind fun t714 => (if t714 ≥ 0 then ((endonymref2_Less.f k l0_1 l1_1).bind fun t715 => (some (a0_0, t715))) else ((endonymref2_Less.f k l1_1 l0_1).bind fun t718 => (some (a1_0, t718)))))) = some (r1, r2) := h
 clear h
 by_cases c3 : (a0_0 == a1_0) = true
 ·rw [if_pos c3] at H
  have c3b0 : (a0_0 == a1_0) = true := c3
  (try (have c3b1 : decide (a0_0 = a1_0) = true := by simpa using c3))
  (try (have c3b2 : (a0_0 == a1_0) = true := by simpa using c3))
  clear c3
  replace H := Option.bind_eq_some_iff.mp H
  obtain ⟨t711, A40, H⟩ := H
  try dsimp only at H
  have A4 := Aside0.mk A40
  clear A40
  simp only [Option.some.injEq, Prod.mk.injEq] at H
  obtain ⟨rfl, rfl⟩ := H
  go_enter Tryz.func84, Tryz.ntmps84
  try go_wp2_with (first | ((with_reducible refine gate_dst (N := 2) rfl ?_); refine box_event ?hg (N := 2) ?hd (cs := #[.bool a0_0, .slice A0_1 l0_1.length c0_1]) (t := 73) ?hr ?_; (case hd => rfl); (case hg => rfl); (case hr => first | (go_simp; done) | (go_simp; rfl)); intro gb708 hg w5 hbox hb; have n0_ := Aside0.mk (below_step sqB hb); have n1_ := Aside0.mk (hbox); have n2_ := Aside0.mk ((by rw [hg]; exact (below_size sqB) : w.heap.size ≤ gb708)); have n3_ := Aside0.mk ((by rw [hg]; exact (below_size sqB) : w.heap.size ≤ gb708)); clear HB; have HB := n0_; have BK708 := n1_; have GW708 := n2_; have GE708 := n3_; clear n0_ n1_ n2_ n3_; clear hb hbox hg) | ((with_reducible refine gate_dst (N := 3) rfl ?_); refine box_event ?hg (N := 3) ?hd (cs := #[.bool a1_0, .slice A1_1 l1_1.length c1_1]) (t := 73) ?hr ?_; (case hd => rfl); (case hg => rfl); (case hr => first | (go_simp; done) | (go_simp; rfl)); intro gb709 hg w6 hbox hb; have n0_ := Aside0.mk (blk_below (g := gb708) (o := .cells #[.bool a0_0, .slice A0_1 l0_1.length c0_1] 73 (0, 0)) (by (with_reducible repeat (first | refine blk_drewN ?_ _ | refine blk_drew ?_ | refine blk_alloc ?_ _)); exact BK708.out) hb); have n1_ := Aside0.mk (below_step (by repeat (first | (with_reducible first | exact HB.out | apply below_alloc | apply pw_below_drewN | apply below_drew1 | refine below_set ?_ GE708.out) | exact HB.out)) hb); have n2_ := Aside0.mk (hbox); have n3_ := Aside0.mk ((by rw [hg]; exact (below_size (by repeat (first | (with_reducible first | exact HB.out | apply below_alloc | apply pw_below_drewN | apply below_drew1 | refine below_set ?_ GE708.out) | exact HB.out))) : w.heap.size ≤ gb709)); have n4_ := Aside0.mk ((by rw [hg]; exact (below_size (by repeat (first | (with_reducible first | exact HB.out | apply below_alloc | apply pw_below_drewN | apply below_drew1 | refine below_set ?_ GE708.out) | exact HB.out))) : w.heap.size ≤ gb709)); have n5_ := Aside0.mk ((by rw [hg]; exact Nat.ne_of_lt (blk_lt (g := gb708) (o := .cells #[.bool a0_0, .slice A0_1 l0_1.length c0_1] 73 (0, 0)) (by (with_reducible repeat (first | refine blk_drewN ?_ _ | refine blk_drew ?_ | refine blk_alloc ?_ _)); exact BK708.out)) : gb708 ≠ gb709)); have n6_ := Aside0.mk ((by rw [hg]; exact Nat.ne_of_gt (blk_lt (g := gb708) (o := .cells #[.bool a0_0, .slice A0_1 l0_1.length c0_1] 73 (0, 0)) (by (with_reducible repeat (first | refine blk_drewN ?_ _ | refine blk_drew ?_ | refine blk_alloc ?_ _)); exact BK708.out)) : gb709 ≠ gb708)); clear BK708; clear HB; have BK708 := n0_; have HB := n1_; have BK709 := n2_; have GW709 := n3_; have GE709 := n4_; have NB708_709 := n5_; have NB709_708 := n6_; clear n0_ n1_ n2_ n3_ n4_ n5_ n6_; clear hb hbox hg) | ((with_reducible refine gate_dst (N := 4) rfl ?_); refine box_event ?hg (N := 4) ?hd (cs := #[.bool false, .slice none 0 0]) (t := 73) ?hr ?_; (case hd => rfl); (case hg => rfl); (case hr => first | (go_simp; done) | (go_simp; rfl)); intro gb710 hg w7 hbox hb; have n0_ := Aside0.mk (blk_below (g := gb708) (o := .cells #[.bool a0_0, .slice A0_1 l0_1.length c0_1] 73 (0, 0)) (by (with_reducible repeat (first | refine blk_drewN ?_ _ | refine blk_drew ?_ | refine blk_alloc ?_ _)); exact BK708.out) hb); have n1_ := Aside0.mk (blk_below (g := gb709) (o := .cells #[.bool a1_0, .slice A1_1 l1_1.length c1_1] 73 (0, 0)) (by (with_reducible repeat (first | refine blk_drewN ?_ _ | refine blk_drew ?_ | refine blk_alloc ?_ _)); exact BK709.out) hb); have n2_ := Aside0.mk (below_step (by repeat (first | (with_reducible first | exact HB.out | apply below_alloc | apply pw_below_drewN | apply below_drew1 | refine below_set ?_ GE708.out | refine below_set ?_ GE709.out) | exact HB.out)) hb); have n3_ := Aside0.mk (hbox); have n4_ := Aside0.mk ((by rw [hg]; exact (below_size (by repeat (first | (with_reducible first | exact HB.out | apply below_alloc | apply pw_below_drewN | apply below_drew1 | refine below_set ?_ GE708.out | refine below_set ?_ GE709.out) | exact HB.out))) : w.heap.size ≤ gb710)); have n5_ := Aside0.mk ((by rw [hg]; exact (below_size (by repeat (first | (with_reducible first | exact HB.out | apply below_alloc | apply pw_below_drewN | apply below_drew1 | refine below_set ?_ GE708.out | refine below_set ?_ GE709.out) | exact HB.out))) : w.heap.size ≤ gb710)); have n6_ := Aside0.mk ((by rw [hg]; exact Nat.ne_of_lt (blk_lt (g := gb708) (o := .cells #[.bool a0_0, .slice A0_1 l0_1.length c0_1] 73 (0, 0)) (by (with_reducible repeat (first | refine blk_drewN ?_ _ | refine blk_drew ?_ | refine blk_alloc ?_ _)); exact BK708.out)) : gb708 ≠ gb710)); have n7_ := Aside0.mk ((by rw [hg]; exact Nat.ne_of_gt (blk_lt (g := gb708) (o := .cells #[.bool a0_0, .slice A0_1 l0_1.length c0_1] 73 (0, 0)) (by (with_reducible repeat (first | refine blk_drewN ?_ _ | refine blk_drew ?_ | refine blk_alloc ?_ _)); exact BK708.out)) : gb710 ≠ gb708)); have n8_ := Aside0.mk ((by rw [hg]; exact Nat.ne_of_lt (blk_lt (g := gb709) (o := .cells #[.bool a1_0, .slice A1_1 l1_1.length c1_1] 73 (0, 0)) (by (with_reducible repeat (first | refine blk_drewN ?_ _ | refine blk_drew ?_ | refine blk_alloc ?_ _)); exact BK709.out)) : gb709 ≠ gb710)); have n9_ := Aside0.mk ((by rw [hg]; exact Nat.ne_of_gt (blk_lt (g := gb709) (o := .cells #[.bool a1_0, .slice A1_1 l1_1.length c1_1] 73 (0, 0)) (by (with_reducible repeat (first | refine blk_drewN ?_ _ | refine blk_drew ?_ | refine blk_alloc ?_ _)); exact BK709.out)) : gb710 ≠ gb709)); clear BK708; clear BK709; clear HB; have BK708 := n0_; have BK709 := n1_; have HB := n2_; have BK710 := n3_; have GW710 := n4_; have GE710 := n5_; have NB708_710 := n6_; have NB710_708 := n7_; have NB709_710 := n8_; have NB710_709 := n9_; clear n0_ n1_ n2_ n3_ n4_ n5_ n6_ n7_ n8_ n9_; clear hb hbox hg; have hnb8 := NB708_709.out; have hnc8 := NB709_708.out; have hnb9 := NB708_710.out; have hnc9 := NB710_708.out; have hcz10_0 : w7.cell? ⟨gb708, 0, none⟩ = some (.bool a0_0) := (blk_cell BK708.out 0).trans rfl; have hcz10_1 : w7.cell? ⟨gb708, 1, none⟩ = some (.slice A0_1 l0_1.length c0_1) := (blk_cell BK708.out 1).trans rfl; have hfz10_0 := blk_frozen BK708.out 0; have hfz10_1 := blk_frozen BK708.out 1; have hnb11 := NB709_710.out; have hnc11 := NB710_709.out; have hcz12_0 : w7.cell? ⟨gb709, 0, none⟩ = some (.bool a1_0) := (blk_cell BK709.out 0).trans rfl; have hcz12_1 : w7.cell? ⟨gb709, 1, none⟩ = some (.slice A1_1 l1_1.length c1_1) := (blk_cell BK709.out 1).trans rfl; have hfz12_0 := blk_frozen BK709.out 0; have hfz12_1 := blk_frozen BK709.out 1))
  have n0_ := Aside0.mk (blk_drew BK708.out)
  have n1_ := Aside0.mk (blk_drew BK709.out)
  have n2_ := Aside0.mk (blk_drew BK710.out)
  have n3_ := Aside0.mk (below_drew1 HB.out)
  clear BK708
  clear BK709
  clear BK710
  clear HB
  have BK708 := n0_
  have BK709 := n1_
  have BK710 := n2_
  have HB := n3_
  clear n0_ n1_ n2_ n3_
  refine start_ (n := 9) (S := fun w' => w'.cell? ⟨gb708, 0, none⟩ = some (.bool a0_0) ∧ w'.cell? ⟨gb708, 1, none⟩ = some (.slice A0_1 l0_1.length c0_1) ∧ w'.cell? ⟨gb709, 0, none⟩ = some (.bool a1_0) ∧ w'.cell? ⟨gb709, 1, none⟩ = some (.slice A1_1 l1_1.length c1_1)) (ds := []) #[false, false, false, false, false, false, false, false, false] (by kernel_rfl) rfl rfl ⟨(blk_cell BK708.out 0).trans rfl, (blk_cell BK708.out 1).trans rfl, (blk_cell BK709.out 0).trans rfl, (blk_cell BK709.out 1).trans rfl⟩ (fun hHeld => ?_); refine with_tabW endonymref2_plus.tab2 endonymref2_plus.bits2 (fun HT_ HW_ => ?_)
  generalize w7.drew = w13 at BK708 BK709 BK710 HB hHeld ⊢
  refine pure_ (i := 0) (N := some 10) (v := ?_) (a' := ?_) #[true, false, false, false, false, false, false, false, false] rfl rfl (any_of HT_.out (by kernel_rfl)) (fun _ _ _ h => h) (Or.inl ⟨by rfl, ?_⟩) ?_ ?_
  rotate_left
  ·intro w'
   go_simp
   with_reducible rfl
  rotate_left
  ·simp only [Act.put, List.setIfInBounds_toArray, List.set_cons_zero, List.set_cons_succ, i64_w, i32_w]
   rfl
  refine pure_ (i := 2) (N := some 12) (v := ?_) (a' := ?_) #[true, false, true, false, false, false, false, false, false] rfl rfl (any_of HT_.out (by kernel_rfl)) (fun _ _ _ h => h) (Or.inl ⟨by rfl, ?_⟩) ?_ ?_
  rotate_left
  ·intro w'
   go_simp
   with_reducible rfl
  rotate_left
  ·simp only [Act.put, List.setIfInBounds_toArray, List.set_cons_zero, List.set_cons_succ, i64_w, i32_w]
   rfl
  refine pure_ (i := 4) (N := some 14) (v := ?_) (a' := ?_) #[true, false, true, false, true, false, false, false, false] rfl rfl (any_of HT_.out (by kernel_rfl)) (fun _ _ _ h => h) (Or.inl ⟨by rfl, ?_⟩) ?_ ?_
  rotate_left
  ·intro w'
   go_simp
   with_reducible rfl
  rotate_left
  ·simp only [Act.put, List.setIfInBounds_toArray, List.set_cons_zero, List.set_cons_succ, i64_w, i32_w]
   rfl
  refine take_ (i := 1) (N := some 11) (v := ?_) (a' := ?_) #[true, true, true, false, true, false, false, false, false] rfl rfl (take_ofW HT_.out HW_.out (by kernel_rfl)) (fun _ _ _ h => h) (Or.inl ⟨by rfl, ?_⟩) hHeld ?_ ?_
  rotate_left
  ·rintro w' ⟨s0, s1, s2, s3⟩
   go_simp
   with_reducible rfl
  rotate_left
  ·simp only [Act.put, List.setIfInBounds_toArray, List.set_cons_zero, List.set_cons_succ, i64_w, i32_w]
   rfl
  refine take_ (i := 3) (N := some 13) (v := ?_) (a' := ?_) #[true, true, true, true, true, false, false, false, false] rfl rfl (take_ofW HT_.out HW_.out (by kernel_rfl)) (fun _ _ _ h => h) (Or.inl ⟨by rfl, ?_⟩) hHeld ?_ ?_
  rotate_left
  ·rintro w' ⟨s0, s1, s2, s3⟩
   go_simp
   with_reducible rfl
  rotate_left
  ·simp only [Act.put, List.setIfInBounds_toArray, List.set_cons_zero, List.set_cons_succ, i64_w, i32_w]
   rfl
  refine take_ (i := 5) (N := some 15) (v := ?_) (a' := ?_) #[true, true, true, true, true, true, false, false, false] rfl rfl (take_ofW HT_.out HW_.out (by kernel_rfl)) (fun _ _ _ h => h) (Or.inl ⟨by rfl, ?_⟩) hHeld ?_ ?_
  rotate_left
  ·rintro w' ⟨s0, s1, s2, s3⟩
   go_simp
   with_reducible rfl
  rotate_left
  ·simp only [Act.put, List.setIfInBounds_toArray, List.set_cons_zero, List.set_cons_succ, i64_w, i32_w]
   rfl
  refine one_ (i := 6) (N := some 16) #[true, true, true, true, true, true, true, false, false] rfl rfl (one_of HT_.out (by kernel_rfl)) (by decide) (fun K hK => ?_)
  refine goes_ Tryz.func99 (by kernel_rfl) rfl #[.slice A0_1 l0_1.length c0_1, .slice A1_1 l1_1.length c1_1] (by rfl) rfl rfl sqA ?_
  with_reducible refine (endonymref2_Plus.calls k _ _ l0_1 _ _ l1_1 t711 _ ?side1 ?side2 ?side3 ?side4 A4.out).mono ?_
  (case side1 => repeat (first | exact (Kd.C_below HR0_1.out HB.out) | (with_reducible refine Kd.C_alloc ?_ _) | (with_reducible refine Kd.C_drewN ?_ _) | (with_reducible refine Kd.C_drew ?_)))
  (case side2 => exact HC0_1.out)
  (case side3 => repeat (first | exact (Kd.C_below HR1_1.out HB.out) | (with_reducible refine Kd.C_alloc ?_ _) | (with_reducible refine Kd.C_drewN ?_ _) | (with_reducible refine Kd.C_drew ?_)))
  (case side4 => exact HC1_1.out)
  rintro e w14 ⟨v712, rfl, ho0, hb⟩
  refine ⟨_, rfl, ?_⟩
  have n0_ := Aside0.mk (Kd.R_lower ho0 (below_size (by repeat (first | (with_reducible first | exact HB.out | apply below_alloc | apply pw_below_drewN | apply below_drew1 | refine below_set ?_ GE708.out | refine below_set ?_ GE709.out | refine below_set ?_ GE710.out) | exact HB.out))))
  have n1_ := Aside0.mk (blk_below (g := gb708) (o := .cells #[.bool a0_0, .slice A0_1 l0_1.length c0_1] 73 (0, 0)) (by (with_reducible repeat (first | refine blk_drewN ?_ _ | refine blk_drew ?_ | refine blk_alloc ?_ _)); exact BK708.out) hb)
  have n2_ := Aside0.mk (blk_below (g := gb709) (o := .cells #[.bool a1_0, .slice A1_1 l1_1.length c1_1] 73 (0, 0)) (by (with_reducible repeat (first | refine blk_drewN ?_ _ | refine blk_drew ?_ | refine blk_alloc ?_ _)); exact BK709.out) hb)
  have n3_ := Aside0.mk (blk_below (g := gb710) (o := .cells #[.bool false, .slice none 0 0] 73 (0, 0)) (by (with_reducible repeat (first | refine blk_drewN ?_ _ | refine blk_drew ?_ | refine blk_alloc ?_ _)); exact BK710.out) hb)
  have n4_ := Aside0.mk (below_step (by repeat (first | (with_reducible first | exact HB.out | apply below_alloc | apply pw_below_drewN | apply below_drew1 | refine below_set ?_ GE708.out | refine below_set ?_ GE709.out | refine below_set ?_ GE710.out) | exact HB.out)) hb)
  clear BK708
  clear BK709
  clear BK710
  clear HB
  have HO713 := n0_
  have BK708 := n1_
  have BK709 := n2_
  have BK710 := n3_
  have HB := n4_
  clear n0_ n1_ n2_ n3_ n4_
  (try clear hb)
  (try clear hb2)
  (try clear hk)
  (try clear hi)
  (try clear ho0)
  obtain ⟨Ao15, co15, eo15⟩ := Kd.R_slice HO713.out
  (first | subst eo15 | (injection eo15 with f1_ f2_ f3_; have f4_ := f1_.symm; have f5_ := f3_.symm; clear f1_ f2_ f3_; subst f4_; subst f5_))
  refine hK.out _ _ ⟨(blk_cell BK708.out 0).trans rfl, (blk_cell BK708.out 1).trans rfl, (blk_cell BK709.out 0).trans rfl, (blk_cell BK709.out 1).trans rfl⟩ (fun hHeld => ?_)
  clear hK K
  refine norm_ (a' := ?_) ?_ ?_
  rotate_left
  ·show Act.put _ (some 16) _ = _
   simp only [Act.put, List.setIfInBounds_toArray, List.set_cons_zero, List.set_cons_succ, i64_w, i32_w]
   rfl
  refine pure_ (i := 7) (N := some 17) (v := ?_) (a' := ?_) #[true, true, true, true, true, true, true, true, false] rfl rfl (any_of HT_.out (by kernel_rfl)) (fun _ _ _ h => h) (Or.inl ⟨by rfl, ?_⟩) ?_ ?_
  rotate_left
  ·intro w'
   go_simp
   with_reducible rfl
  rotate_left
  ·simp only [Act.put, List.setIfInBounds_toArray, List.set_cons_zero, List.set_cons_succ, i64_w, i32_w]
   rfl
  refine one_ (i := 8) (N := none) #[true, true, true, true, true, true, true, true, true] rfl rfl (one_of HT_.out (by kernel_rfl)) (by decide) (fun K hK => ?_)
  have hs16 : w14.cell? ⟨gb710, 0, none⟩ = some (.bool false) := (blk_cell BK710.out 0).trans rfl
  have hfs16 := blk_frozen BK710.out 0
  have hns16_0 := NB708_710.out
  have hns16_1 := NB709_710.out
  have hms16_0 := NB710_708.out
  have hms16_1 := NB710_709.out
  have hs17 : w14.cell? ⟨gb710, 1, none⟩ = some (.slice none 0 0) := (blk_cell BK710.out 1).trans rfl
  have hfs17 := blk_frozen BK710.out 1
  have hns17_0 := NB708_710.out
  have hns17_1 := NB709_710.out
  have hms17_0 := NB710_708.out
  have hms17_1 := NB710_709.out
  refine skip_ (w1 := ?_) (by rfl) rfl ?_ ?_
  rotate_left
  ·go_simp
   rfl
  refine hK.out _ _ ⟨((cell_far (p := ⟨gb710, _, none⟩) NB708_710.out _).trans (((cell_far (p := ⟨gb710, _, none⟩) NB708_710.out _).trans (hHeld.1)))), ((cell_far (p := ⟨gb710, _, none⟩) NB708_710.out _).trans (((cell_far (p := ⟨gb710, _, none⟩) NB708_710.out _).trans (hHeld.2.1)))), ((cell_far (p := ⟨gb710, _, none⟩) NB709_710.out _).trans (((cell_far (p := ⟨gb710, _, none⟩) NB709_710.out _).trans (hHeld.2.2.1)))), ((cell_far (p := ⟨gb710, _, none⟩) NB709_710.out _).trans (((cell_far (p := ⟨gb710, _, none⟩) NB709_710.out _).trans (hHeld.2.2.2))))⟩ (fun hHeld => ?_)
  clear hK K
  refine done_ (done_of HT_.out (by kernel_rfl)) ?_
  try go_wp2
  refine bodyPost_ret (results_cell_row rfl _ _ gb710 73 #[.bool a0_0, .slice Ao15 t711.length co15] (0, 0) _ rfl (by (with_reducible repeat (first | refine blk_drewN ?_ _ | refine blk_drew ?_ | refine blk_alloc ?_ _)); refine blk_put (cs := #[.bool a0_0, .slice none 0 0]) ?_ 1 _ rfl; (with_reducible repeat (first | refine blk_drewN ?_ _ | refine blk_drew ?_ | refine blk_alloc ?_ _)); refine blk_put (cs := #[.bool false, .slice none 0 0]) ?_ 0 _ rfl; (with_reducible repeat (first | refine blk_drewN ?_ _ | refine blk_drew ?_ | refine blk_alloc ?_ _)); exact BK710.out) Tryz.underlying73 rfl (by kernel_rfl)) rfl ?_
  exact ⟨_, sqE', by (with_reducible repeat (first | apply Kd.R_alloc | apply Kd.R_drewN | apply Kd.R_drew)); exact Kd.R_mono (Kd.R_far (p := ⟨gb710, 1, none⟩) (Kd.R_far (p := ⟨gb710, 0, none⟩) (Kd.R_types HO713.out BK710.out (by decide)) (fun _ hk => hk.2) (.bool a0_0)) (fun _ hk => hk.2) (.slice Ao15 t711.length co15)) (fun _ hk => trivial), by repeat (first | (with_reducible first | exact HB.out | apply below_alloc | apply pw_below_drewN | apply below_drew1 | refine below_set ?_ GE708.out | refine below_set ?_ GE709.out | refine below_set ?_ GE710.out) | exact HB.out)⟩
 rw [if_neg c3] at H
 have c3b0 : (a0_0 == a1_0) = false := by simpa using c3
 (try (have c3b1 : decide (a0_0 = a1_0) = false := by simpa using c3))
 (try (have c3b2 : (a0_0 == a1_0) = false := by simpa using c3))
 (try (have c3b3 : ¬ (a0_0 = a1_0) := by simpa using c3))
 clear c3
 replace H := Option.bind_eq_some_iff.mp H
 obtain ⟨t714, A180, H⟩ := H
 try dsimp only at H
 have A18 := Aside0.mk A180
 clear A180
 by_cases c19 : t714 ≥ 0
 ·rw [if_pos c19] at H
  have c19b0 := decide_eq_true c19
  clear c19
  replace H := Option.bind_eq_some_iff.mp H
  obtain ⟨t715, A200, H⟩ := H
  try dsimp only at H
  have A20 := Aside0.mk A200
  clear A200
  simp only [Option.some.injEq, Prod.mk.injEq] at H
  obtain ⟨rfl, rfl⟩ := H
  go_enter Tryz.func84, Tryz.ntmps84
  try go_wp2_with (first | ((with_reducible refine gate_dst (N := 2) rfl ?_); refine box_event ?hg (N := 2) ?hd (cs := #[.bool a0_0, .slice A0_1 l0_1.length c0_1]) (t := 73) ?hr ?_; (case hd => rfl); (case hg => rfl); (case hr => first | (go_simp; done) | (go_simp; rfl)); intro gb708 hg w21 hbox hb; have n0_ := Aside0.mk (below_step sqB hb); have n1_ := Aside0.mk (hbox); have n2_ := Aside0.mk ((by rw [hg]; exact (below_size sqB) : w.heap.size ≤ gb708)); have n3_ := Aside0.mk ((by rw [hg]; exact (below_size sqB) : w.heap.size ≤ gb708)); clear HB; have HB := n0_; have BK708 := n1_; have GW708 := n2_; have GE708 := n3_; clear n0_ n1_ n2_ n3_; clear hb hbox hg) | ((with_reducible refine gate_dst (N := 3) rfl ?_); refine box_event ?hg (N := 3) ?hd (cs := #[.bool a1_0, .slice A1_1 l1_1.length c1_1]) (t := 73) ?hr ?_; (case hd => rfl); (case hg => rfl); (case hr => first | (go_simp; done) | (go_simp; rfl)); intro gb709 hg w22 hbox hb; have n0_ := Aside0.mk (blk_below (g := gb708) (o := .cells #[.bool a0_0, .slice A0_1 l0_1.length c0_1] 73 (0, 0)) (by (with_reducible repeat (first | refine blk_drewN ?_ _ | refine blk_drew ?_ | refine blk_alloc ?_ _)); exact BK708.out) hb); have n1_ := Aside0.mk (below_step (by repeat (first | (with_reducible first | exact HB.out | apply below_alloc | apply pw_below_drewN | apply below_drew1 | refine below_set ?_ GE708.out) | exact HB.out)) hb); have n2_ := Aside0.mk (hbox); have n3_ := Aside0.mk ((by rw [hg]; exact (below_size (by repeat (first | (with_reducible first | exact HB.out | apply below_alloc | apply pw_below_drewN | apply below_drew1 | refine below_set ?_ GE708.out) | exact HB.out))) : w.heap.size ≤ gb709)); have n4_ := Aside0.mk ((by rw [hg]; exact (below_size (by repeat (first | (with_reducible first | exact HB.out | apply below_alloc | apply pw_below_drewN | apply below_drew1 | refine below_set ?_ GE708.out) | exact HB.out))) : w.heap.size ≤ gb709)); have n5_ := Aside0.mk ((by rw [hg]; exact Nat.ne_of_lt (blk_lt (g := gb708) (o := .cells #[.bool a0_0, .slice A0_1 l0_1.length c0_1] 73 (0, 0)) (by (with_reducible repeat (first | refine blk_drewN ?_ _ | refine blk_drew ?_ | refine blk_alloc ?_ _)); exact BK708.out)) : gb708 ≠ gb709)); have n6_ := Aside0.mk ((by rw [hg]; exact Nat.ne_of_gt (blk_lt (g := gb708) (o := .cells #[.bool a0_0, .slice A0_1 l0_1.length c0_1] 73 (0, 0)) (by (with_reducible repeat (first | refine blk_drewN ?_ _ | refine blk_drew ?_ | refine blk_alloc ?_ _)); exact BK708.out)) : gb709 ≠ gb708)); clear BK708; clear HB; have BK708 := n0_; have HB := n1_; have BK709 := n2_; have GW709 := n3_; have GE709 := n4_; have NB708_709 := n5_; have NB709_708 := n6_; clear n0_ n1_ n2_ n3_ n4_ n5_ n6_; clear hb hbox hg) | ((with_reducible refine gate_dst (N := 4) rfl ?_); refine box_event ?hg (N := 4) ?hd (cs := #[.bool false, .slice none 0 0]) (t := 73) ?hr ?_; (case hd => rfl); (case hg => rfl); (case hr => first | (go_simp; done) | (go_simp; rfl)); intro gb710 hg w23 hbox hb; have n0_ := Aside0.mk (blk_below (g := gb708) (o := .cells #[.bool a0_0, .slice A0_1 l0_1.length c0_1] 73 (0, 0)) (by (with_reducible repeat (first | refine blk_drewN ?_ _ | refine blk_drew ?_ | refine blk_alloc ?_ _)); exact BK708.out) hb); have n1_ := Aside0.mk (blk_below (g := gb709) (o := .cells #[.bool a1_0, .slice A1_1 l1_1.length c1_1] 73 (0, 0)) (by (with_reducible repeat (first | refine blk_drewN ?_ _ | refine blk_drew ?_ | refine blk_alloc ?_ _)); exact BK709.out) hb); have n2_ := Aside0.mk (below_step (by repeat (first | (with_reducible first | exact HB.out | apply below_alloc | apply pw_below_drewN | apply below_drew1 | refine below_set ?_ GE708.out | refine below_set ?_ GE709.out) | exact HB.out)) hb); have n3_ := Aside0.mk (hbox); have n4_ := Aside0.mk ((by rw [hg]; exact (below_size (by repeat (first | (with_reducible first | exact HB.out | apply below_alloc | apply pw_below_drewN | apply below_drew1 | refine below_set ?_ GE708.out | refine below_set ?_ GE709.out) | exact HB.out))) : w.heap.size ≤ gb710)); have n5_ := Aside0.mk ((by rw [hg]; exact (below_size (by repeat (first | (with_reducible first | exact HB.out | apply below_alloc | apply pw_below_drewN | apply below_drew1 | refine below_set ?_ GE708.out | refine below_set ?_ GE709.out) | exact HB.out))) : w.heap.size ≤ gb710)); have n6_ := Aside0.mk ((by rw [hg]; exact Nat.ne_of_lt (blk_lt (g := gb708) (o := .cells #[.bool a0_0, .slice A0_1 l0_1.length c0_1] 73 (0, 0)) (by (with_reducible repeat (first | refine blk_drewN ?_ _ | refine blk_drew ?_ | refine blk_alloc ?_ _)); exact BK708.out)) : gb708 ≠ gb710)); have n7_ := Aside0.mk ((by rw [hg]; exact Nat.ne_of_gt (blk_lt (g := gb708) (o := .cells #[.bool a0_0, .slice A0_1 l0_1.length c0_1] 73 (0, 0)) (by (with_reducible repeat (first | refine blk_drewN ?_ _ | refine blk_drew ?_ | refine blk_alloc ?_ _)); exact BK708.out)) : gb710 ≠ gb708)); have n8_ := Aside0.mk ((by rw [hg]; exact Nat.ne_of_lt (blk_lt (g := gb709) (o := .cells #[.bool a1_0, .slice A1_1 l1_1.length c1_1] 73 (0, 0)) (by (with_reducible repeat (first | refine blk_drewN ?_ _ | refine blk_drew ?_ | refine blk_alloc ?_ _)); exact BK709.out)) : gb709 ≠ gb710)); have n9_ := Aside0.mk ((by rw [hg]; exact Nat.ne_of_gt (blk_lt (g := gb709) (o := .cells #[.bool a1_0, .slice A1_1 l1_1.length c1_1] 73 (0, 0)) (by (with_reducible repeat (first | refine blk_drewN ?_ _ | refine blk_drew ?_ | refine blk_alloc ?_ _)); exact BK709.out)) : gb710 ≠ gb709)); clear BK708; clear BK709; clear HB; have BK708 := n0_; have BK709 := n1_; have HB := n2_; have BK710 := n3_; have GW710 := n4_; have GE710 := n5_; have NB708_710 := n6_; have NB710_708 := n7_; have NB709_710 := n8_; have NB710_709 := n9_; clear n0_ n1_ n2_ n3_ n4_ n5_ n6_ n7_ n8_ n9_; clear hb hbox hg; have hnb24 := NB708_709.out; have hnc24 := NB709_708.out; have hnb25 := NB708_710.out; have hnc25 := NB710_708.out; have hcz26_0 : w23.cell? ⟨gb708, 0, none⟩ = some (.bool a0_0) := (blk_cell BK708.out 0).trans rfl; have hcz26_1 : w23.cell? ⟨gb708, 1, none⟩ = some (.slice A0_1 l0_1.length c0_1) := (blk_cell BK708.out 1).trans rfl; have hfz26_0 := blk_frozen BK708.out 0; have hfz26_1 := blk_frozen BK708.out 1; have hnb27 := NB709_710.out; have hnc27 := NB710_709.out; have hcz28_0 : w23.cell? ⟨gb709, 0, none⟩ = some (.bool a1_0) := (blk_cell BK709.out 0).trans rfl; have hcz28_1 : w23.cell? ⟨gb709, 1, none⟩ = some (.slice A1_1 l1_1.length c1_1) := (blk_cell BK709.out 1).trans rfl; have hfz28_0 := blk_frozen BK709.out 0; have hfz28_1 := blk_frozen BK709.out 1) | ((with_reducible refine gate_callee (f := 80) rfl ?_); refine goesL_ (some 22) rfl rfl Tryz.func80 (by kernel_rfl) rfl #[.slice A0_1 l0_1.length c0_1, .slice A1_1 l1_1.length c1_1] rfl sqA ?_; (with_reducible refine (endonymref2_Cmp.calls k _ _ l0_1 _ _ l1_1 t714 _ ?side1 ?side2 ?side3 ?side4 A18.out).mono ?_); (case side1 => repeat (first | exact (Kd.C_below HR0_1.out HB.out) | (with_reducible refine Kd.C_alloc ?_ _) | (with_reducible refine Kd.C_drewN ?_ _) | (with_reducible refine Kd.C_drew ?_))); (case side2 => exact HC0_1.out); (case side3 => repeat (first | exact (Kd.C_below HR1_1.out HB.out) | (with_reducible refine Kd.C_alloc ?_ _) | (with_reducible refine Kd.C_drewN ?_ _) | (with_reducible refine Kd.C_drew ?_))); (case side4 => exact HC1_1.out); rintro e w' ⟨rfl, ⟨nd, rfl⟩⟩; refine ⟨_, rfl, ?_⟩; (try (rw [drewN_self w23]; generalize hq_ : World.drewN w23 _ = w23; have n0_ : Aside0 (w23.heap[gb708]? = some (.cells #[.bool a0_0, .slice A0_1 l0_1.length c0_1] 73 (0, 0))) := ⟨by rw [← hq_]; exact (by (with_reducible repeat (first | refine blk_drewN ?_ _ | refine blk_drew ?_ | refine blk_alloc ?_ _)); exact BK708.out)⟩; have n1_ : Aside0 (w23.heap[gb709]? = some (.cells #[.bool a1_0, .slice A1_1 l1_1.length c1_1] 73 (0, 0))) := ⟨by rw [← hq_]; exact (by (with_reducible repeat (first | refine blk_drewN ?_ _ | refine blk_drew ?_ | refine blk_alloc ?_ _)); exact BK709.out)⟩; have n2_ : Aside0 (w23.heap[gb710]? = some (.cells #[.bool false, .slice none 0 0] 73 (0, 0))) := ⟨by rw [← hq_]; exact (by (with_reducible repeat (first | refine blk_drewN ?_ _ | refine blk_drew ?_ | refine blk_alloc ?_ _)); exact BK710.out)⟩; have n3_ : Aside0 (Below w.heap.size w w23) := ⟨by rw [← hq_]; exact (by repeat (first | (with_reducible first | exact HB.out | apply below_alloc | apply pw_below_drewN | apply below_drew1 | refine below_set ?_ GE708.out | refine below_set ?_ GE709.out | refine below_set ?_ GE710.out) | exact HB.out))⟩; clear BK708 BK709 BK710 HB hq_; have BK708 := n0_; have BK709 := n1_; have BK710 := n2_; have HB := n3_; clear n0_ n1_ n2_ n3_))))
  have n0_ := Aside0.mk (blk_drew BK708.out)
  have n1_ := Aside0.mk (blk_drew BK709.out)
  have n2_ := Aside0.mk (blk_drew BK710.out)
  have n3_ := Aside0.mk (below_drew1 HB.out)
  clear BK708
  clear BK709
  clear BK710
  clear HB
  have BK708 := n0_
  have BK709 := n1_
  have BK710 := n2_
  have HB := n3_
  clear n0_ n1_ n2_ n3_
  refine start_ (n := 9) (S := fun w' => w'.cell? ⟨gb708, 0, none⟩ = some (.bool a0_0) ∧ w'.cell? ⟨gb708, 1, none⟩ = some (.slice A0_1 l0_1.length c0_1) ∧ w'.cell? ⟨gb709, 0, none⟩ = some (.bool a1_0) ∧ w'.cell? ⟨gb709, 1, none⟩ = some (.slice A1_1 l1_1.length c1_1)) (ds := []) #[false, false, false, false, false, false, false, false, false] (by kernel_rfl) rfl rfl ⟨(blk_cell BK708.out 0).trans rfl, (blk_cell BK708.out 1).trans rfl, (blk_cell BK709.out 0).trans rfl, (blk_cell BK709.out 1).trans rfl⟩ (fun hHeld => ?_); refine with_tabW endonymref2_plus.tab4 endonymref2_plus.bits4 (fun HT_ HW_ => ?_)
  generalize w23.drew = w29 at BK708 BK709 BK710 HB hHeld ⊢
  refine pure_ (i := 0) (N := some 24) (v := ?_) (a' := ?_) #[true, false, false, false, false, false, false, false, false] rfl rfl (any_of HT_.out (by kernel_rfl)) (fun _ _ _ h => h) (Or.inl ⟨by rfl, ?_⟩) ?_ ?_
  rotate_left
  ·intro w'
   go_simp
   with_reducible rfl
  rotate_left
  ·simp only [Act.put, List.setIfInBounds_toArray, List.set_cons_zero, List.set_cons_succ, i64_w, i32_w]
   rfl
  refine pure_ (i := 2) (N := some 26) (v := ?_) (a' := ?_) #[true, false, true, false, false, false, false, false, false] rfl rfl (any_of HT_.out (by kernel_rfl)) (fun _ _ _ h => h) (Or.inl ⟨by rfl, ?_⟩) ?_ ?_
  rotate_left
  ·intro w'
   go_simp
   with_reducible rfl
  rotate_left
  ·simp only [Act.put, List.setIfInBounds_toArray, List.set_cons_zero, List.set_cons_succ, i64_w, i32_w]
   rfl
  refine pure_ (i := 4) (N := some 28) (v := ?_) (a' := ?_) #[true, false, true, false, true, false, false, false, false] rfl rfl (any_of HT_.out (by kernel_rfl)) (fun _ _ _ h => h) (Or.inl ⟨by rfl, ?_⟩) ?_ ?_
  rotate_left
  ·intro w'
   go_simp
   with_reducible rfl
  rotate_left
  ·simp only [Act.put, List.setIfInBounds_toArray, List.set_cons_zero, List.set_cons_succ, i64_w, i32_w]
   rfl
  refine take_ (i := 1) (N := some 25) (v := ?_) (a' := ?_) #[true, true, true, false, true, false, false, false, false] rfl rfl (take_ofW HT_.out HW_.out (by kernel_rfl)) (fun _ _ _ h => h) (Or.inl ⟨by rfl, ?_⟩) hHeld ?_ ?_
  rotate_left
  ·rintro w' ⟨s0, s1, s2, s3⟩
   go_simp
   with_reducible rfl
  rotate_left
  ·simp only [Act.put, List.setIfInBounds_toArray, List.set_cons_zero, List.set_cons_succ, i64_w, i32_w]
   rfl
  refine take_ (i := 3) (N := some 27) (v := ?_) (a' := ?_) #[true, true, true, true, true, false, false, false, false] rfl rfl (take_ofW HT_.out HW_.out (by kernel_rfl)) (fun _ _ _ h => h) (Or.inl ⟨by rfl, ?_⟩) hHeld ?_ ?_
  rotate_left
  ·rintro w' ⟨s0, s1, s2, s3⟩
   go_simp
   with_reducible rfl
  rotate_left
  ·simp only [Act.put, List.setIfInBounds_toArray, List.set_cons_zero, List.set_cons_succ, i64_w, i32_w]
   rfl
  refine take_ (i := 5) (N := some 29) (v := ?_) (a' := ?_) #[true, true, true, true, true, true, false, false, false] rfl rfl (take_ofW HT_.out HW_.out (by kernel_rfl)) (fun _ _ _ h => h) (Or.inl ⟨by rfl, ?_⟩) hHeld ?_ ?_
  rotate_left
  ·rintro w' ⟨s0, s1, s2, s3⟩
   go_simp
   with_reducible rfl
  rotate_left
  ·simp only [Act.put, List.setIfInBounds_toArray, List.set_cons_zero, List.set_cons_succ, i64_w, i32_w]
   rfl
  refine one_ (i := 6) (N := some 30) #[true, true, true, true, true, true, true, false, false] rfl rfl (one_of HT_.out (by kernel_rfl)) (by decide) (fun K hK => ?_)
  refine goes_ Tryz.func98 (by kernel_rfl) rfl #[.slice A0_1 l0_1.length c0_1, .slice A1_1 l1_1.length c1_1] (by rfl) rfl rfl sqA ?_
  with_reducible refine (endonymref2_Less.calls k _ _ l0_1 _ _ l1_1 t715 _ ?side1 ?side2 ?side3 ?side4 A20.out).mono ?_
  (case side1 => repeat (first | exact (Kd.C_below HR0_1.out HB.out) | (with_reducible refine Kd.C_alloc ?_ _) | (with_reducible refine Kd.C_drewN ?_ _) | (with_reducible refine Kd.C_drew ?_)))
  (case side2 => exact HC0_1.out)
  (case side3 => repeat (first | exact (Kd.C_below HR1_1.out HB.out) | (with_reducible refine Kd.C_alloc ?_ _) | (with_reducible refine Kd.C_drewN ?_ _) | (with_reducible refine Kd.C_drew ?_)))
  (case side4 => exact HC1_1.out)
  rintro e w30 ⟨v716, rfl, ho0, hb⟩
  refine ⟨_, rfl, ?_⟩
  have n0_ := Aside0.mk (Kd.R_lower ho0 (below_size (by repeat (first | (with_reducible first | exact HB.out | apply below_alloc | apply pw_below_drewN | apply below_drew1 | refine below_set ?_ GE708.out | refine below_set ?_ GE709.out | refine below_set ?_ GE710.out) | exact HB.out))))
  have n1_ := Aside0.mk (blk_below (g := gb708) (o := .cells #[.bool a0_0, .slice A0_1 l0_1.length c0_1] 73 (0, 0)) (by (with_reducible repeat (first | refine blk_drewN ?_ _ | refine blk_drew ?_ | refine blk_alloc ?_ _)); exact BK708.out) hb)
  have n2_ := Aside0.mk (blk_below (g := gb709) (o := .cells #[.bool a1_0, .slice A1_1 l1_1.length c1_1] 73 (0, 0)) (by (with_reducible repeat (first | refine blk_drewN ?_ _ | refine blk_drew ?_ | refine blk_alloc ?_ _)); exact BK709.out) hb)
  have n3_ := Aside0.mk (blk_below (g := gb710) (o := .cells #[.bool false, .slice none 0 0] 73 (0, 0)) (by (with_reducible repeat (first | refine blk_drewN ?_ _ | refine blk_drew ?_ | refine blk_alloc ?_ _)); exact BK710.out) hb)
  have n4_ := Aside0.mk (below_step (by repeat (first | (with_reducible first | exact HB.out | apply below_alloc | apply pw_below_drewN | apply below_drew1 | refine below_set ?_ GE708.out | refine below_set ?_ GE709.out | refine below_set ?_ GE710.out) | exact HB.out)) hb)
  clear BK708
  clear BK709
  clear BK710
  clear HB
  have HO717 := n0_
  have BK708 := n1_
  have BK709 := n2_
  have BK710 := n3_
  have HB := n4_
  clear n0_ n1_ n2_ n3_ n4_
  (try clear hb)
  (try clear hb2)
  (try clear hk)
  (try clear hi)
  (try clear ho0)
  obtain ⟨Ao31, co31, eo31⟩ := Kd.R_slice HO717.out
  (first | subst eo31 | (injection eo31 with f1_ f2_ f3_; have f4_ := f1_.symm; have f5_ := f3_.symm; clear f1_ f2_ f3_; subst f4_; subst f5_))
  refine hK.out _ _ ⟨(blk_cell BK708.out 0).trans rfl, (blk_cell BK708.out 1).trans rfl, (blk_cell BK709.out 0).trans rfl, (blk_cell BK709.out 1).trans rfl⟩ (fun hHeld => ?_)
  clear hK K
  refine norm_ (a' := ?_) ?_ ?_
  rotate_left
  ·show Act.put _ (some 30) _ = _
   simp only [Act.put, List.setIfInBounds_toArray, List.set_cons_zero, List.set_cons_succ, i64_w, i32_w]
   rfl
  refine pure_ (i := 7) (N := some 31) (v := ?_) (a' := ?_) #[true, true, true, true, true, true, true, true, false] rfl rfl (any_of HT_.out (by kernel_rfl)) (fun _ _ _ h => h) (Or.inl ⟨by rfl, ?_⟩) ?_ ?_
  rotate_left
  ·intro w'
   go_simp
   with_reducible rfl
  rotate_left
  ·simp only [Act.put, List.setIfInBounds_toArray, List.set_cons_zero, List.set_cons_succ, i64_w, i32_w]
   rfl
  refine one_ (i := 8) (N := none) #[true, true, true, true, true, true, true, true, true] rfl rfl (one_of HT_.out (by kernel_rfl)) (by decide) (fun K hK => ?_)
  have hs32 : w30.cell? ⟨gb710, 0, none⟩ = some (.bool false) := (blk_cell BK710.out 0).trans rfl
  have hfs32 := blk_frozen BK710.out 0
  have hns32_0 := NB708_710.out
  have hns32_1 := NB709_710.out
  have hms32_0 := NB710_708.out
  have hms32_1 := NB710_709.out
  have hs33 : w30.cell? ⟨gb710, 1, none⟩ = some (.slice none 0 0) := (blk_cell BK710.out 1).trans rfl
  have hfs33 := blk_frozen BK710.out 1
  have hns33_0 := NB708_710.out
  have hns33_1 := NB709_710.out
  have hms33_0 := NB710_708.out
  have hms33_1 := NB710_709.out
  refine skip_ (w1 := ?_) (by rfl) rfl ?_ ?_
  rotate_left
  ·go_simp
   rfl
  refine hK.out _ _ ⟨((cell_far (p := ⟨gb710, _, none⟩) NB708_710.out _).trans (((cell_far (p := ⟨gb710, _, none⟩) NB708_710.out _).trans (hHeld.1)))), ((cell_far (p := ⟨gb710, _, none⟩) NB708_710.out _).trans (((cell_far (p := ⟨gb710, _, none⟩) NB708_710.out _).trans (hHeld.2.1)))), ((cell_far (p := ⟨gb710, _, none⟩) NB709_710.out _).trans (((cell_far (p := ⟨gb710, _, none⟩) NB709_710.out _).trans (hHeld.2.2.1)))), ((cell_far (p := ⟨gb710, _, none⟩) NB709_710.out _).trans (((cell_far (p := ⟨gb710, _, none⟩) NB709_710.out _).trans (hHeld.2.2.2))))⟩ (fun hHeld => ?_)
  clear hK K
  refine done_ (done_of HT_.out (by kernel_rfl)) ?_
  try go_wp2
  refine bodyPost_ret (results_cell_row rfl _ _ gb710 73 #[.bool a0_0, .slice Ao31 t715.length co31] (0, 0) _ rfl (by (with_reducible repeat (first | refine blk_drewN ?_ _ | refine blk_drew ?_ | refine blk_alloc ?_ _)); refine blk_put (cs := #[.bool a0_0, .slice none 0 0]) ?_ 1 _ rfl; (with_reducible repeat (first | refine blk_drewN ?_ _ | refine blk_drew ?_ | refine blk_alloc ?_ _)); refine blk_put (cs := #[.bool false, .slice none 0 0]) ?_ 0 _ rfl; (with_reducible repeat (first | refine blk_drewN ?_ _ | refine blk_drew ?_ | refine blk_alloc ?_ _)); exact BK710.out) Tryz.underlying73 rfl (by kernel_rfl)) rfl ?_
  exact ⟨_, sqE', by (with_reducible repeat (first | apply Kd.R_alloc | apply Kd.R_drewN | apply Kd.R_drew)); exact Kd.R_mono (Kd.R_far (p := ⟨gb710, 1, none⟩) (Kd.R_far (p := ⟨gb710, 0, none⟩) (Kd.R_types HO717.out BK710.out (by decide)) (fun _ hk => hk.2) (.bool a0_0)) (fun _ hk => hk.2) (.slice Ao31 t715.length co31)) (fun _ hk => trivial), by repeat (first | (with_reducible first | exact HB.out | apply below_alloc | apply pw_below_drewN | apply below_drew1 | refine below_set ?_ GE708.out | refine below_set ?_ GE709.out | refine below_set ?_ GE710.out) | exact HB.out)⟩
 rw [if_neg c19] at H
 have c19b0 := decide_eq_false c19
 clear c19
 replace H := Option.bind_eq_some_iff.mp H
 obtain ⟨t718, A340, H⟩ := H
 try dsimp only at H
 have A34 := Aside0.mk A340
 clear A340
 simp only [Option.some.injEq, Prod.mk.injEq] at H
 obtain ⟨rfl, rfl⟩ := H
 go_enter Tryz.func84, Tryz.ntmps84
 try go_wp2_with (first | ((with_reducible refine gate_dst (N := 2) rfl ?_); refine box_event ?hg (N := 2) ?hd (cs := #[.bool a0_0, .slice A0_1 l0_1.length c0_1]) (t := 73) ?hr ?_; (case hd => rfl); (case hg => rfl); (case hr => first | (go_simp; done) | (go_simp; rfl)); intro gb708 hg w35 hbox hb; have n0_ := Aside0.mk (below_step sqB hb); have n1_ := Aside0.mk (hbox); have n2_ := Aside0.mk ((by rw [hg]; exact (below_size sqB) : w.heap.size ≤ gb708)); have n3_ := Aside0.mk ((by rw [hg]; exact (below_size sqB) : w.heap.size ≤ gb708)); clear HB; have HB := n0_; have BK708 := n1_; have GW708 := n2_; have GE708 := n3_; clear n0_ n1_ n2_ n3_; clear hb hbox hg) | ((with_reducible refine gate_dst (N := 3) rfl ?_); refine box_event ?hg (N := 3) ?hd (cs := #[.bool a1_0, .slice A1_1 l1_1.length c1_1]) (t := 73) ?hr ?_; (case hd => rfl); (case hg => rfl); (case hr => first | (go_simp; done) | (go_simp; rfl)); intro gb709 hg w36 hbox hb; have n0_ := Aside0.mk (blk_below (g := gb708) (o := .cells #[.bool a0_0, .slice A0_1 l0_1.length c0_1] 73 (0, 0)) (by (with_reducible repeat (first | refine blk_drewN ?_ _ | refine blk_drew ?_ | refine blk_alloc ?_ _)); exact BK708.out) hb); have n1_ := Aside0.mk (below_step (by repeat (first | (with_reducible first | exact HB.out | apply below_alloc | apply pw_below_drewN | apply below_drew1 | refine below_set ?_ GE708.out) | exact HB.out)) hb); have n2_ := Aside0.mk (hbox); have n3_ := Aside0.mk ((by rw [hg]; exact (below_size (by repeat (first | (with_reducible first | exact HB.out | apply below_alloc | apply pw_below_drewN | apply below_drew1 | refine below_set ?_ GE708.out) | exact HB.out))) : w.heap.size ≤ gb709)); have n4_ := Aside0.mk ((by rw [hg]; exact (below_size (by repeat (first | (with_reducible first | exact HB.out | apply below_alloc | apply pw_below_drewN | apply below_drew1 | refine below_set ?_ GE708.out) | exact HB.out))) : w.heap.size ≤ gb709)); have n5_ := Aside0.mk ((by rw [hg]; exact Nat.ne_of_lt (blk_lt (g := gb708) (o := .cells #[.bool a0_0, .slice A0_1 l0_1.length c0_1] 73 (0, 0)) (by (with_reducible repeat (first | refine blk_drewN ?_ _ | refine blk_drew ?_ | refine blk_alloc ?_ _)); exact BK708.out)) : gb708 ≠ gb709)); have n6_ := Aside0.mk ((by rw [hg]; exact Nat.ne_of_gt (blk_lt (g := gb708) (o := .cells #[.bool a0_0, .slice A0_1 l0_1.length c0_1] 73 (0, 0)) (by (with_reducible repeat (first | refine blk_drewN ?_ _ | refine blk_drew ?_ | refine blk_alloc ?_ _)); exact BK708.out)) : gb709 ≠ gb708)); clear BK708; clear HB; have BK708 := n0_; have HB := n1_; have BK709 := n2_; have GW709 := n3_; have GE709 := n4_; have NB708_709 := n5_; have NB709_708 := n6_; clear n0_ n1_ n2_ n3_ n4_ n5_ n6_; clear hb hbox hg) | ((with_reducible refine gate_dst (N := 4) rfl ?_); refine box_event ?hg (N := 4) ?hd (cs := #[.bool false, .slice none 0 0]) (t := 73) ?hr ?_; (case hd => rfl); (case hg => rfl); (case hr => first | (go_simp; done) | (go_simp; rfl)); intro gb710 hg w37 hbox hb; have n0_ := Aside0.mk (blk_below (g := gb708) (o := .cells #[.bool a0_0, .slice A0_1 l0_1.length c0_1] 73 (0, 0)) (by (with_reducible repeat (first | refine blk_drewN ?_ _ | refine blk_drew ?_ | refine blk_alloc ?_ _)); exact BK708.out) hb); have n1_ := Aside0.mk (blk_below (g := gb709) (o := .cells #[.bool a1_0, .slice A1_1 l1_1.length c1_1] 73 (0, 0)) (by (with_reducible repeat (first | refine blk_drewN ?_ _ | refine blk_drew ?_ | refine blk_alloc ?_ _)); exact BK709.out) hb); have n2_ := Aside0.mk (below_step (by repeat (first | (with_reducible first | exact HB.out | apply below_alloc | apply pw_below_drewN | apply below_drew1 | refine below_set ?_ GE708.out | refine below_set ?_ GE709.out) | exact HB.out)) hb); have n3_ := Aside0.mk (hbox); have n4_ := Aside0.mk ((by rw [hg]; exact (below_size (by repeat (first | (with_reducible first | exact HB.out | apply below_alloc | apply pw_below_drewN | apply below_drew1 | refine below_set ?_ GE708.out | refine below_set ?_ GE709.out) | exact HB.out))) : w.heap.size ≤ gb710)); have n5_ := Aside0.mk ((by rw [hg]; exact (below_size (by repeat (first | (with_reducible first | exact HB.out | apply below_alloc | apply pw_below_drewN | apply below_drew1 | refine below_set ?_ GE708.out | refine below_set ?_ GE709.out) | exact HB.out))) : w.heap.size ≤ gb710)); have n6_ := Aside0.mk ((by rw [hg]; exact Nat.ne_of_lt (blk_lt (g := gb708) (o := .cells #[.bool a0_0, .slice A0_1 l0_1.length c0_1] 73 (0, 0)) (by (with_reducible repeat (first | refine blk_drewN ?_ _ | refine blk_drew ?_ | refine blk_alloc ?_ _)); exact BK708.out)) : gb708 ≠ gb710)); have n7_ := Aside0.mk ((by rw [hg]; exact Nat.ne_of_gt (blk_lt (g := gb708) (o := .cells #[.bool a0_0, .slice A0_1 l0_1.length c0_1] 73 (0, 0)) (by (with_reducible repeat (first | refine blk_drewN ?_ _ | refine blk_drew ?_ | refine blk_alloc ?_ _)); exact BK708.out)) : gb710 ≠ gb708)); have n8_ := Aside0.mk ((by rw [hg]; exact Nat.ne_of_lt (blk_lt (g := gb709) (o := .cells #[.bool a1_0, .slice A1_1 l1_1.length c1_1] 73 (0, 0)) (by (with_reducible repeat (first | refine blk_drewN ?_ _ | refine blk_drew ?_ | refine blk_alloc ?_ _)); exact BK709.out)) : gb709 ≠ gb710)); have n9_ := Aside0.mk ((by rw [hg]; exact Nat.ne_of_gt (blk_lt (g := gb709) (o := .cells #[.bool a1_0, .slice A1_1 l1_1.length c1_1] 73 (0, 0)) (by (with_reducible repeat (first | refine blk_drewN ?_ _ | refine blk_drew ?_ | refine blk_alloc ?_ _)); exact BK709.out)) : gb710 ≠ gb709)); clear BK708; clear BK709; clear HB; have BK708 := n0_; have BK709 := n1_; have HB := n2_; have BK710 := n3_; have GW710 := n4_; have GE710 := n5_; have NB708_710 := n6_; have NB710_708 := n7_; have NB709_710 := n8_; have NB710_709 := n9_; clear n0_ n1_ n2_ n3_ n4_ n5_ n6_ n7_ n8_ n9_; clear hb hbox hg; have hnb38 := NB708_709.out; have hnc38 := NB709_708.out; have hnb39 := NB708_710.out; have hnc39 := NB710_708.out; have hcz40_0 : w37.cell? ⟨gb708, 0, none⟩ = some (.bool a0_0) := (blk_cell BK708.out 0).trans rfl; have hcz40_1 : w37.cell? ⟨gb708, 1, none⟩ = some (.slice A0_1 l0_1.length c0_1) := (blk_cell BK708.out 1).trans rfl; have hfz40_0 := blk_frozen BK708.out 0; have hfz40_1 := blk_frozen BK708.out 1; have hnb41 := NB709_710.out; have hnc41 := NB710_709.out; have hcz42_0 : w37.cell? ⟨gb709, 0, none⟩ = some (.bool a1_0) := (blk_cell BK709.out 0).trans rfl; have hcz42_1 : w37.cell? ⟨gb709, 1, none⟩ = some (.slice A1_1 l1_1.length c1_1) := (blk_cell BK709.out 1).trans rfl; have hfz42_0 := blk_frozen BK709.out 0; have hfz42_1 := blk_frozen BK709.out 1) | ((with_reducible refine gate_callee (f := 80) rfl ?_); refine goesL_ (some 22) rfl rfl Tryz.func80 (by kernel_rfl) rfl #[.slice A0_1 l0_1.length c0_1, .slice A1_1 l1_1.length c1_1] rfl sqA ?_; (with_reducible refine (endonymref2_Cmp.calls k _ _ l0_1 _ _ l1_1 t714 _ ?side1 ?side2 ?side3 ?side4 A18.out).mono ?_); (case side1 => repeat (first | exact (Kd.C_below HR0_1.out HB.out) | (with_reducible refine Kd.C_alloc ?_ _) | (with_reducible refine Kd.C_drewN ?_ _) | (with_reducible refine Kd.C_drew ?_))); (case side2 => exact HC0_1.out); (case side3 => repeat (first | exact (Kd.C_below HR1_1.out HB.out) | (with_reducible refine Kd.C_alloc ?_ _) | (with_reducible refine Kd.C_drewN ?_ _) | (with_reducible refine Kd.C_drew ?_))); (case side4 => exact HC1_1.out); rintro e w' ⟨rfl, ⟨nd, rfl⟩⟩; refine ⟨_, rfl, ?_⟩; (try (rw [drewN_self w37]; generalize hq_ : World.drewN w37 _ = w37; have n0_ : Aside0 (w37.heap[gb708]? = some (.cells #[.bool a0_0, .slice A0_1 l0_1.length c0_1] 73 (0, 0))) := ⟨by rw [← hq_]; exact (by (with_reducible repeat (first | refine blk_drewN ?_ _ | refine blk_drew ?_ | refine blk_alloc ?_ _)); exact BK708.out)⟩; have n1_ : Aside0 (w37.heap[gb709]? = some (.cells #[.bool a1_0, .slice A1_1 l1_1.length c1_1] 73 (0, 0))) := ⟨by rw [← hq_]; exact (by (with_reducible repeat (first | refine blk_drewN ?_ _ | refine blk_drew ?_ | refine blk_alloc ?_ _)); exact BK709.out)⟩; have n2_ : Aside0 (w37.heap[gb710]? = some (.cells #[.bool false, .slice none 0 0] 73 (0, 0))) := ⟨by rw [← hq_]; exact (by (with_reducible repeat (first | refine blk_drewN ?_ _ | refine blk_drew ?_ | refine blk_alloc ?_ _)); exact BK710.out)⟩; have n3_ : Aside0 (Below w.heap.size w w37) := ⟨by rw [← hq_]; exact (by repeat (first | (with_reducible first | exact HB.out | apply below_alloc | apply pw_below_drewN | apply below_drew1 | refine below_set ?_ GE708.out | refine below_set ?_ GE709.out | refine below_set ?_ GE710.out) | exact HB.out))⟩; clear BK708 BK709 BK710 HB hq_; have BK708 := n0_; have BK709 := n1_; have BK710 := n2_; have HB := n3_; clear n0_ n1_ n2_ n3_))))
 have n0_ := Aside0.mk (blk_drew BK708.out)
 have n1_ := Aside0.mk (blk_drew BK709.out)
 have n2_ := Aside0.mk (blk_drew BK710.out)
 have n3_ := Aside0.mk (below_drew1 HB.out)
 clear BK708
 clear BK709
 clear BK710
 clear HB
 have BK708 := n0_
 have BK709 := n1_
 have BK710 := n2_
 have HB := n3_
 clear n0_ n1_ n2_ n3_
 refine start_ (n := 9) (S := fun w' => w'.cell? ⟨gb709, 0, none⟩ = some (.bool a1_0) ∧ w'.cell? ⟨gb709, 1, none⟩ = some (.slice A1_1 l1_1.length c1_1) ∧ w'.cell? ⟨gb708, 0, none⟩ = some (.bool a0_0) ∧ w'.cell? ⟨gb708, 1, none⟩ = some (.slice A0_1 l0_1.length c0_1)) (ds := []) #[false, false, false, false, false, false, false, false, false] (by kernel_rfl) rfl rfl ⟨(blk_cell BK709.out 0).trans rfl, (blk_cell BK709.out 1).trans rfl, (blk_cell BK708.out 0).trans rfl, (blk_cell BK708.out 1).trans rfl⟩ (fun hHeld => ?_); refine with_tabW endonymref2_plus.tab5 endonymref2_plus.bits5 (fun HT_ HW_ => ?_)
 generalize w37.drew = w43 at BK708 BK709 BK710 HB hHeld ⊢
 refine pure_ (i := 0) (N := some 32) (v := ?_) (a' := ?_) #[true, false, false, false, false, false, false, false, false] rfl rfl (any_of HT_.out (by kernel_rfl)) (fun _ _ _ h => h) (Or.inl ⟨by rfl, ?_⟩) ?_ ?_
 rotate_left
 ·intro w'
  go_simp
  with_reducible rfl
 rotate_left
 ·simp only [Act.put, List.setIfInBounds_toArray, List.set_cons_zero, List.set_cons_succ, i64_w, i32_w]
  rfl
 refine pure_ (i := 2) (N := some 34) (v := ?_) (a' := ?_) #[true, false, true, false, false, false, false, false, false] rfl rfl (any_of HT_.out (by kernel_rfl)) (fun _ _ _ h => h) (Or.inl ⟨by rfl, ?_⟩) ?_ ?_
 rotate_left
 ·intro w'
  go_simp
  with_reducible rfl
 rotate_left
 ·simp only [Act.put, List.setIfInBounds_toArray, List.set_cons_zero, List.set_cons_succ, i64_w, i32_w]
  rfl
 refine pure_ (i := 4) (N := some 36) (v := ?_) (a' := ?_) #[true, false, true, false, true, false, false, false, false] rfl rfl (any_of HT_.out (by kernel_rfl)) (fun _ _ _ h => h) (Or.inl ⟨by rfl, ?_⟩) ?_ ?_
 rotate_left
 ·intro w'
  go_simp
  with_reducible rfl
 rotate_left
 ·simp only [Act.put, List.setIfInBounds_toArray, List.set_cons_zero, List.set_cons_succ, i64_w, i32_w]
  rfl
 refine take_ (i := 1) (N := some 33) (v := ?_) (a' := ?_) #[true, true, true, false, true, false, false, false, false] rfl rfl (take_ofW HT_.out HW_.out (by kernel_rfl)) (fun _ _ _ h => h) (Or.inl ⟨by rfl, ?_⟩) hHeld ?_ ?_
 rotate_left
 ·rintro w' ⟨s0, s1, s2, s3⟩
  go_simp
  with_reducible rfl
 rotate_left
 ·simp only [Act.put, List.setIfInBounds_toArray, List.set_cons_zero, List.set_cons_succ, i64_w, i32_w]
  rfl
 refine take_ (i := 3) (N := some 35) (v := ?_) (a' := ?_) #[true, true, true, true, true, false, false, false, false] rfl rfl (take_ofW HT_.out HW_.out (by kernel_rfl)) (fun _ _ _ h => h) (Or.inl ⟨by rfl, ?_⟩) hHeld ?_ ?_
 rotate_left
 ·rintro w' ⟨s0, s1, s2, s3⟩
  go_simp
  with_reducible rfl
 rotate_left
 ·simp only [Act.put, List.setIfInBounds_toArray, List.set_cons_zero, List.set_cons_succ, i64_w, i32_w]
  rfl
 refine take_ (i := 5) (N := some 37) (v := ?_) (a' := ?_) #[true, true, true, true, true, true, false, false, false] rfl rfl (take_ofW HT_.out HW_.out (by kernel_rfl)) (fun _ _ _ h => h) (Or.inl ⟨by rfl, ?_⟩) hHeld ?_ ?_
 rotate_left
 ·rintro w' ⟨s0, s1, s2, s3⟩
  go_simp
  with_reducible rfl
 rotate_left
 ·simp only [Act.put, List.setIfInBounds_toArray, List.set_cons_zero, List.set_cons_succ, i64_w, i32_w]
  rfl
 refine one_ (i := 6) (N := some 38) #[true, true, true, true, true, true, true, false, false] rfl rfl (one_of HT_.out (by kernel_rfl)) (by decide) (fun K hK => ?_)
 refine goes_ Tryz.func98 (by kernel_rfl) rfl #[.slice A1_1 l1_1.length c1_1, .slice A0_1 l0_1.length c0_1] (by rfl) rfl rfl sqA ?_
 with_reducible refine (endonymref2_Less.calls k _ _ l1_1 _ _ l0_1 t718 _ ?side1 ?side2 ?side3 ?side4 A34.out).mono ?_
 (case side1 => repeat (first | exact (Kd.C_below HR1_1.out HB.out) | (with_reducible refine Kd.C_alloc ?_ _) | (with_reducible refine Kd.C_drewN ?_ _) | (with_reducible refine Kd.C_drew ?_)))
 (case side2 => exact HC1_1.out)
 (case side3 => repeat (first | exact (Kd.C_below HR0_1.out HB.out) | (with_reducible refine Kd.C_alloc ?_ _) | (with_reducible refine Kd.C_drewN ?_ _) | (with_reducible refine Kd.C_drew ?_)))
 (case side4 => exact HC0_1.out)
 rintro e w44 ⟨v719, rfl, ho0, hb⟩
 refine ⟨_, rfl, ?_⟩
 have n0_ := Aside0.mk (Kd.R_lower ho0 (below_size (by repeat (first | (with_reducible first | exact HB.out | apply below_alloc | apply pw_below_drewN | apply below_drew1 | refine below_set ?_ GE708.out | refine below_set ?_ GE709.out | refine below_set ?_ GE710.out) | exact HB.out))))
 have n1_ := Aside0.mk (blk_below (g := gb708) (o := .cells #[.bool a0_0, .slice A0_1 l0_1.length c0_1] 73 (0, 0)) (by (with_reducible repeat (first | refine blk_drewN ?_ _ | refine blk_drew ?_ | refine blk_alloc ?_ _)); exact BK708.out) hb)
 have n2_ := Aside0.mk (blk_below (g := gb709) (o := .cells #[.bool a1_0, .slice A1_1 l1_1.length c1_1] 73 (0, 0)) (by (with_reducible repeat (first | refine blk_drewN ?_ _ | refine blk_drew ?_ | refine blk_alloc ?_ _)); exact BK709.out) hb)
 have n3_ := Aside0.mk (blk_below (g := gb710) (o := .cells #[.bool false, .slice none 0 0] 73 (0, 0)) (by (with_reducible repeat (first | refine blk_drewN ?_ _ | refine blk_drew ?_ | refine blk_alloc ?_ _)); exact BK710.out) hb)
 have n4_ := Aside0.mk (below_step (by repeat (first | (with_reducible first | exact HB.out | apply below_alloc | apply pw_below_drewN | apply below_drew1 | refine below_set ?_ GE708.out | refine below_set ?_ GE709.out | refine below_set ?_ GE710.out) | exact HB.out)) hb)
 clear BK708
 clear BK709
 clear BK710
 clear HB
 have HO720 := n0_
 have BK708 := n1_
 have BK709 := n2_
 have BK710 := n3_
 have HB := n4_
 clear n0_ n1_ n2_ n3_ n4_
 (try clear hb)
 (try clear hb2)
 (try clear hk)
 (try clear hi)
 (try clear ho0)
 obtain ⟨Ao45, co45, eo45⟩ := Kd.R_slice HO720.out
 (first | subst eo45 | (injection eo45 with f1_ f2_ f3_; have f4_ := f1_.symm; have f5_ := f3_.symm; clear f1_ f2_ f3_; subst f4_; subst f5_))
 refine hK.out _ _ ⟨(blk_cell BK709.out 0).trans rfl, (blk_cell BK709.out 1).trans rfl, (blk_cell BK708.out 0).trans rfl, (blk_cell BK708.out 1).trans rfl⟩ (fun hHeld => ?_)
 clear hK K
 refine norm_ (a' := ?_) ?_ ?_
 rotate_left
 ·show Act.put _ (some 38) _ = _
  simp only [Act.put, List.setIfInBounds_toArray, List.set_cons_zero, List.set_cons_succ, i64_w, i32_w]
  rfl
 refine pure_ (i := 7) (N := some 39) (v := ?_) (a' := ?_) #[true, true, true, true, true, true, true, true, false] rfl rfl (any_of HT_.out (by kernel_rfl)) (fun _ _ _ h => h) (Or.inl ⟨by rfl, ?_⟩) ?_ ?_
 rotate_left
 ·intro w'
  go_simp
  with_reducible rfl
 rotate_left
 ·simp only [Act.put, List.setIfInBounds_toArray, List.set_cons_zero, List.set_cons_succ, i64_w, i32_w]
  rfl
 refine one_ (i := 8) (N := none) #[true, true, true, true, true, true, true, true, true] rfl rfl (one_of HT_.out (by kernel_rfl)) (by decide) (fun K hK => ?_)
 have hs46 : w44.cell? ⟨gb710, 0, none⟩ = some (.bool false) := (blk_cell BK710.out 0).trans rfl
 have hfs46 := blk_frozen BK710.out 0
 have hns46_0 := NB708_710.out
 have hns46_1 := NB709_710.out
 have hms46_0 := NB710_708.out
 have hms46_1 := NB710_709.out
 have hs47 : w44.cell? ⟨gb710, 1, none⟩ = some (.slice none 0 0) := (blk_cell BK710.out 1).trans rfl
 have hfs47 := blk_frozen BK710.out 1
 have hns47_0 := NB708_710.out
 have hns47_1 := NB709_710.out
 have hms47_0 := NB710_708.out
 have hms47_1 := NB710_709.out
 refine skip_ (w1 := ?_) (by rfl) rfl ?_ ?_
 rotate_left
 ·go_simp
  rfl
 refine hK.out _ _ ⟨((cell_far (p := ⟨gb710, _, none⟩) NB709_710.out _).trans (((cell_far (p := ⟨gb710, _, none⟩) NB709_710.out _).trans (hHeld.1)))), ((cell_far (p := ⟨gb710, _, none⟩) NB709_710.out _).trans (((cell_far (p := ⟨gb710, _, none⟩) NB709_710.out _).trans (hHeld.2.1)))), ((cell_far (p := ⟨gb710, _, none⟩) NB708_710.out _).trans (((cell_far (p := ⟨gb710, _, none⟩) NB708_710.out _).trans (hHeld.2.2.1)))), ((cell_far (p := ⟨gb710, _, none⟩) NB708_710.out _).trans (((cell_far (p := ⟨gb710, _, none⟩) NB708_710.out _).trans (hHeld.2.2.2))))⟩ (fun hHeld => ?_)
 clear hK K
 refine done_ (done_of HT_.out (by kernel_rfl)) ?_
 try go_wp2
 refine bodyPost_ret (results_cell_row rfl _ _ gb710 73 #[.bool a1_0, .slice Ao45 t718.length co45] (0, 0) _ rfl (by (with_reducible repeat (first | refine blk_drewN ?_ _ | refine blk_drew ?_ | refine blk_alloc ?_ _)); refine blk_put (cs := #[.bool a1_0, .slice none 0 0]) ?_ 1 _ rfl; (with_reducible repeat (first | refine blk_drewN ?_ _ | refine blk_drew ?_ | refine blk_alloc ?_ _)); refine blk_put (cs := #[.bool false, .slice none 0 0]) ?_ 0 _ rfl; (with_reducible repeat (first | refine blk_drewN ?_ _ | refine blk_drew ?_ | refine blk_alloc ?_ _)); exact BK710.out) Tryz.underlying73 rfl (by kernel_rfl)) rfl ?_
 exact ⟨_, sqE', by (with_reducible repeat (first | apply Kd.R_alloc | apply Kd.R_drewN | apply Kd.R_drew)); exact Kd.R_mono (Kd.R_far (p := ⟨gb710, 1, none⟩) (Kd.R_far (p := ⟨gb710, 0, none⟩) (Kd.R_types HO720.out BK710.out (by decide)) (fun _ hk => hk.2) (.bool a1_0)) (fun _ hk => hk.2) (.slice Ao45 t718.length co45)) (fun _ hk => trivial), by repeat (first | (with_reducible first | exact HB.out | apply below_alloc | apply pw_below_drewN | apply below_drew1 | refine below_set ?_ GE708.out | refine below_set ?_ GE709.out | refine below_set ?_ GE710.out) | exact HB.out)⟩

/-! ### endonymref2_Parts: function 73 -/
def endonymref2_Parts.f (a0 : Int) : Option (Int × Int) := if (wrap64 (Go.bits .and .u64 (a0 / 4503599627370496) 2047)) = 0 then (some (Go.bits .and .u64 a0 4503599627370495, (-1074))) else (some (Go.bits .or .u64 (Go.bits .and .u64 a0 4503599627370495) 4503599627370496, wrap64 ((wrap64 (Go.bits .and .u64 (a0 / 4503599627370496) 2047)) - 1075)))
set_option maxHeartbeats 8000000 in
set_option maxRecDepth 100000 in
theorem endonymref2_Parts.calls (a0 : Int) (r1 : Int) (r2 : Int) (w : World) (h : endonymref2_Parts.f a0 = some (r1, r2)) :
  Calls Tryz.prog 73 #[.int .u64 a0] w fun e w' => e = .returned (.tuple #[.int .u64 r1, .int .i64 r2]) ∧ Drawn0 w w' := by
 have H : (if (wrap64 (Go.bits .and .u64 (a0 / 4503599627370496) 2047)) = 0 then (some (Go.bits .and .u64 a0 4503599627370495, (-1074))) else (some (Go.bits .or .u64 (Go.bits .and .u64 a0 4503599627370495) 4503599627370496, wrap64 ((wrap64 (Go.bits .and .u64 (a0 / 4503599627370496) 2047)) - 1075)))) = some (r1, r2) := h
 clear h
 by_cases c2 : (wrap64 (Go.bits .and .u64 (a0 / 4503599627370496) 2047)) = 0
 ·rw [if_pos c2] at H
  have c2b0 := beq_iff_eq.mpr c2
  have c2b1 := bne_eq_false_iff_eq.mpr c2
  clear c2
  simp only [Option.some.injEq, Prod.mk.injEq] at H
  obtain ⟨rfl, rfl⟩ := H
  go_enter Tryz.func73, Tryz.ntmps73
  go_wp2
  go_ret2
  exact ⟨sqE, sqW⟩
 rw [if_neg c2] at H
 have c2b0 := beq_eq_false_iff_ne.mpr c2
 have c2b1 := bne_iff_ne.mpr c2
 simp only [Option.some.injEq, Prod.mk.injEq] at H
 obtain ⟨rfl, rfl⟩ := H
 go_enter Tryz.func73, Tryz.ntmps73
 go_wp2
 go_ret2
 exact ⟨sqE, sqW⟩

/-! ### endonymref2_signed: function 85 -/
def endonymref2_signed.f (k : Nat) (a0 : Int) : Option (Bool × List Int) := (endonymref2_Parts.f (Go.bits .andNot .u64 a0 9223372036854775808)).bind fun bt722 => ((endonymref2_Of.f k bt722.1).bind fun t724 => ((endonymref2_Left.f k t724 (wrap64 (bt722.2 + 1074))).bind fun t727 => (some (decide (a0 ≥ 9223372036854775808), t727))))
theorem endonymref2_signed.mono : ∀ a0 k, LeO (endonymref2_signed.f k a0) (endonymref2_signed.f (k + 1) a0) := by
 intro a0 k
 unfold endonymref2_signed.f
 repeat' first | (with_reducible first | apply endonymref2_Left.mono | apply endonymref2_Of.mono | apply LeO.refl | apply LeO.none | refine LeO.ite ?_ ?_ | refine LeO.bind ?_ (fun _ => ?_)) | apply endonymref2_Left.mono | apply endonymref2_Of.mono | apply LeO.none | refine LeO.ite ?_ ?_ | refine LeO.bind ?_ (fun _ => ?_)
set_option maxHeartbeats 8000000 in
set_option maxRecDepth 100000 in
theorem endonymref2_signed.calls (k : Nat) (a0 : Int) (r1 : Bool) (r2 : List Int) (w : World) (h : endonymref2_signed.f k a0 = some (r1, r2)) :
  Calls Tryz.prog 85 #[.int .u64 a0] w fun e w' => ∃ v1_ : Value, e = .returned (.agg #[.bool r1, v1_]) ∧ Kd.R (Kd.int .u32) 83 w' w.heap.size (fun _ => True) v1_ r2 ∧ Below w.heap.size w w' := by
 have hu73 := Tryz.underlying73
 have HB := Aside0.mk (Below.refl w.heap.size w)
 have H : ((endonymref2_Parts.f (Go.bits .andNot .u64 a0 9223372036854775808)).bind fun bt722 => ((endonymref2_Of.f k bt722.1).bind fun t724 => ((endonymref2_Left.f k t724 (wrap64 (bt722.2 + 1074))).bind fun t727 => (some (decide (a0 ≥ 9223372036854775808), t727))))) = some (r1, r2) := h
 clear h
 replace H := Option.bind_eq_some_iff.mp H
 obtain ⟨⟨t722, t723⟩, A20, H⟩ := H
 try dsimp only at H
 have A2 := Aside0.mk A20
 clear A20
 replace H := Option.bind_eq_some_iff.mp H
 obtain ⟨t724, A30, H⟩ := H
 try dsimp only at H
 have A3 := Aside0.mk A30
 clear A30
 replace H := Option.bind_eq_some_iff.mp H
 obtain ⟨t727, A40, H⟩ := H
 try dsimp only at H
 have A4 := Aside0.mk A40
 clear A40
 simp only [Option.some.injEq, Prod.mk.injEq] at H
 obtain ⟨rfl, rfl⟩ := H
 go_enter Tryz.func85, Tryz.ntmps85
 go_wp2_with (first | ((with_reducible refine gate_dst (N := 2) rfl ?_); refine box_event ?hg (N := 2) ?hd (cs := #[.bool false, .slice none 0 0]) (t := 73) ?hr ?_; (case hd => rfl); (case hg => rfl); (case hr => first | (go_simp; done) | (go_simp; rfl)); intro gb721 hg w5 hbox hb; have n0_ := Aside0.mk (below_step sqB hb); have n1_ := Aside0.mk (hbox); have n2_ := Aside0.mk ((by rw [hg]; exact (below_size sqB) : w.heap.size ≤ gb721)); have n3_ := Aside0.mk ((by rw [hg]; exact (below_size sqB) : w.heap.size ≤ gb721)); clear HB; have HB := n0_; have BK721 := n1_; have GW721 := n2_; have GE721 := n3_; clear n0_ n1_ n2_ n3_; clear hb hbox hg) | ((with_reducible refine gate_callee (f := 73) rfl ?_); refine goesL_ (some 8) rfl rfl Tryz.func73 (by kernel_rfl) rfl #[.int .u64 (Go.bits .andNot .u64 a0 9223372036854775808)] rfl sqA ?_; (with_reducible refine (endonymref2_Parts.calls (Go.bits .andNot .u64 a0 9223372036854775808) t722 t723 _ A2.out).mono ?_); rintro e w' ⟨rfl, ⟨nd, rfl⟩⟩; refine ⟨_, rfl, ?_⟩; (try (rw [drewN_self w5]; generalize hq_ : World.drewN w5 _ = w5; have n0_ : Aside0 (w5.heap[gb721]? = some (.cells #[.bool false, .slice none 0 0] 73 (0, 0))) := ⟨by rw [← hq_]; exact (by (with_reducible repeat (first | refine blk_drewN ?_ _ | refine blk_drew ?_ | refine blk_alloc ?_ _)); exact BK721.out)⟩; have n1_ : Aside0 (Below w.heap.size w w5) := ⟨by rw [← hq_]; exact (by repeat (first | (with_reducible first | exact HB.out | apply below_alloc | apply pw_below_drewN | apply below_drew1 | refine below_set ?_ GE721.out) | exact HB.out))⟩; clear BK721 HB hq_; have BK721 := n0_; have HB := n1_; clear n0_ n1_))) | ((with_reducible refine gate_callee (f := 65) rfl ?_); refine goesL_ (some 14) rfl rfl Tryz.func65 (by kernel_rfl) rfl #[.int .u64 t722] rfl sqA ?_; (with_reducible refine (endonymref2_Of.calls k t722 t724 _ A3.out).mono ?_); rintro e w6 ⟨v725, rfl, ho0, hb⟩; refine ⟨_, rfl, ?_⟩; have n0_ := Aside0.mk (Kd.R_lower ho0 (below_size (by repeat (first | (with_reducible first | exact HB.out | apply below_alloc | apply pw_below_drewN | apply below_drew1 | refine below_set ?_ GE721.out) | exact HB.out)))); have n1_ := Aside0.mk (blk_below (g := gb721) (o := .cells #[.bool false, .slice none 0 0] 73 (0, 0)) (by (with_reducible repeat (first | refine blk_drewN ?_ _ | refine blk_drew ?_ | refine blk_alloc ?_ _)); exact BK721.out) hb); have n2_ := Aside0.mk (below_step (by repeat (first | (with_reducible first | exact HB.out | apply below_alloc | apply pw_below_drewN | apply below_drew1 | refine below_set ?_ GE721.out) | exact HB.out)) hb); clear BK721; clear HB; have HO726 := n0_; have BK721 := n1_; have HB := n2_; clear n0_ n1_ n2_; (try clear hb); (try clear hb2); (try clear hk); (try clear hi); (try clear ho0); obtain ⟨Ao7, co7, eo7⟩ := Kd.R_slice HO726.out; subst eo7) | ((with_reducible refine gate_callee (f := 74) rfl ?_); refine goesL_ (some 17) rfl rfl Tryz.func74 (by kernel_rfl) rfl #[.slice Ao7 t724.length co7, .int .i64 (wrap64 (t723 + 1074))] rfl sqA ?_; (with_reducible refine (endonymref2_Left.calls k _ _ t724 (wrap64 (t723 + 1074)) t727 _ ?side1 ?side2 A4.out).mono ?_); (case side1 => repeat (first | exact (Kd.R_reads' HO726.out).2.2 | (with_reducible refine Kd.C_alloc ?_ _) | (with_reducible refine Kd.C_drewN ?_ _) | (with_reducible refine Kd.C_drew ?_))); (case side2 => exact (Kd.R_reads' HO726.out).2.1); rintro e w8 ⟨v728, rfl, ho0, hb⟩; refine ⟨_, rfl, ?_⟩; have n0_ := Aside0.mk (Kd.R_elder' (sqR HO726.out) (Kd.R_base ho0) hb); have n1_ := Aside0.mk (Kd.R_lower (Kd.R_new' ho0 (Kd.R_lt (sqR HO726.out))) (below_size (by repeat (first | (with_reducible first | exact HB.out | apply below_alloc | apply pw_below_drewN | apply below_drew1 | refine below_set ?_ GE721.out) | exact HB.out)))); have n2_ := Aside0.mk (blk_below (g := gb721) (o := .cells #[.bool false, .slice none 0 0] 73 (0, 0)) (by (with_reducible repeat (first | refine blk_drewN ?_ _ | refine blk_drew ?_ | refine blk_alloc ?_ _)); exact BK721.out) hb); have n3_ := Aside0.mk (below_step (by repeat (first | (with_reducible first | exact HB.out | apply below_alloc | apply pw_below_drewN | apply below_drew1 | refine below_set ?_ GE721.out) | exact HB.out)) hb); clear HO726; clear BK721; clear HB; have HO726 := n0_; have HO729 := n1_; have BK721 := n2_; have HB := n3_; clear n0_ n1_ n2_ n3_; (try clear hb); (try clear hb2); (try clear hk); (try clear hi); (try clear ho0); obtain ⟨Ao9, co9, eo9⟩ := Kd.R_slice HO729.out; subst eo9; have hcz10_0 : w8.cell? ⟨gb721, 0, none⟩ = some (.bool false) := (blk_cell BK721.out 0).trans rfl; have hcz10_1 : w8.cell? ⟨gb721, 1, none⟩ = some (.slice none 0 0) := (blk_cell BK721.out 1).trans rfl; have hfz10_0 := blk_frozen BK721.out 0; have hfz10_1 := blk_frozen BK721.out 1))
 refine bodyPost_ret (results_cell_row rfl _ _ gb721 73 #[.bool (decide (a0 ≥ 9223372036854775808)), .slice Ao9 t727.length co9] (0, 0) _ rfl (by (with_reducible repeat (first | refine blk_drewN ?_ _ | refine blk_drew ?_ | refine blk_alloc ?_ _)); refine blk_put (cs := #[.bool (decide (a0 ≥ 9223372036854775808)), .slice none 0 0]) ?_ 1 _ rfl; (with_reducible repeat (first | refine blk_drewN ?_ _ | refine blk_drew ?_ | refine blk_alloc ?_ _)); refine blk_put (cs := #[.bool false, .slice none 0 0]) ?_ 0 _ rfl; (with_reducible repeat (first | refine blk_drewN ?_ _ | refine blk_drew ?_ | refine blk_alloc ?_ _)); exact BK721.out) Tryz.underlying73 rfl (by kernel_rfl)) rfl ?_
 exact ⟨_, sqE', by (with_reducible repeat (first | apply Kd.R_alloc | apply Kd.R_drewN | apply Kd.R_drew)); exact Kd.R_mono (Kd.R_far (p := ⟨gb721, 1, none⟩) (Kd.R_far (p := ⟨gb721, 0, none⟩) (Kd.R_types HO729.out BK721.out (by decide)) (fun _ hk => hk.2) (.bool (decide (a0 ≥ 9223372036854775808)))) (fun _ hk => hk.2) (.slice Ao9 t727.length co9)) (fun _ hk => trivial), by repeat (first | (with_reducible first | exact HB.out | apply below_alloc | apply pw_below_drewN | apply below_drew1 | refine below_set ?_ GE721.out) | exact HB.out)⟩

/-! ### endonymref2_Total: function 49 -/
def endonymref2_Total.l0 : Nat → List Int → Int → Bool → List Int → Option (Bool × List Int)
 | 0, _, _, _, _ => none
 | k + 1, x0, x4, x732000, x732001 => if x4 < (x0.length : Int) then (if 0 ≤ x4 then ((endonymref2_signed.f k (rd x0 x4)).bind fun bt733 => ((endonymref2_plus.f k x732000 x732001 bt733.1 bt733.2).bind fun bt737 => (endonymref2_Total.l0 k x0 (wrap64 (x4 + 1)) bt737.1 bt737.2))) else (none)) else (some (x732000, x732001))
def endonymref2_Total.f (k : Nat) (l0 : List Int) : Option (Bool × List Int) := endonymref2_Total.l0 k l0 0 false ([] : List Int)
theorem endonymref2_Total.mono_l : ∀ k, (∀ y0 y1 y2 y3, LeO (endonymref2_Total.l0 k y0 y1 y2 y3) (endonymref2_Total.l0 (k + 1) y0 y1 y2 y3))
 | 0 => fun _ _ _ _ r h => by simp [endonymref2_Total.l0] at h
 | k + 1 => by
  have ih0 := endonymref2_Total.mono_l k
  intro y0 y1 y2 y3
  unfold endonymref2_Total.l0
  repeat' first | (with_reducible first | apply ih0 | apply endonymref2_plus.mono | apply endonymref2_signed.mono | apply LeO.refl | apply LeO.none | refine LeO.ite ?_ ?_ | refine LeO.bind ?_ (fun _ => ?_)) | apply ih0 | apply endonymref2_plus.mono | apply endonymref2_signed.mono | apply LeO.none | refine LeO.ite ?_ ?_ | refine LeO.bind ?_ (fun _ => ?_)
theorem endonymref2_Total.mono : ∀ a0 k, LeO (endonymref2_Total.f k a0) (endonymref2_Total.f (k + 1) a0) := by
 intro a0 k
 have ih0 := endonymref2_Total.mono_l k
 unfold endonymref2_Total.f
 repeat' first | (with_reducible first | apply ih0 | apply endonymref2_plus.mono | apply endonymref2_signed.mono | apply LeO.refl | apply LeO.none | refine LeO.ite ?_ ?_ | refine LeO.bind ?_ (fun _ => ?_)) | apply ih0 | apply endonymref2_plus.mono | apply endonymref2_signed.mono | apply LeO.none | refine LeO.ite ?_ ?_ | refine LeO.bind ?_ (fun _ => ?_)
def endonymref2_Total.T5 : Bool × List (List Nat × List Nat) := (true, [([], []), ([], []), ([], []), ([1, 2], [1, 2]), ([3], [3]), ([4], [4]), ([0, 5, 5], [0, 5]), ([6, 6, 0, 1, 2, 3, 4, 5, 6], [6])])
def endonymref2_Total.B5 : List Nat := [0, 0, 0, 6, 14, 30, 63, 127]
theorem endonymref2_Total.tab5 : rtab .any (opsOf Tryz.f49 5) = endonymref2_Total.T5 := by kernel_rfl
theorem endonymref2_Total.bits5 : waitsOk endonymref2_Total.T5.2 endonymref2_Total.B5 = true := by kernel_rfl
set_option maxHeartbeats 8000000 in
set_option maxRecDepth 100000 in
theorem endonymref2_Total.calls (k : Nat) (A0 : Option Addr) (c0 : Nat) (l0 : List Int) (r1 : Bool) (r2 : List Int) (w : World) (hr0 : Kd.C (Kd.int .u64) w A0 l0.length l0) (hc0 : l0.length ≤ c0) (h : endonymref2_Total.f k l0 = some (r1, r2)) :
  Calls Tryz.prog 49 #[.slice A0 l0.length c0] w fun e w' => ∃ v1_ : Value, e = .returned (.agg #[.bool r1, v1_]) ∧ Kd.R (Kd.int .u32) 83 w' w.heap.size (fun _ => True) v1_ r2 ∧ Below w.heap.size w w' := by
 have hu73 := Tryz.underlying73
 have HR0 := Aside0.mk hr0
 have HC0 := Aside0.mk hc0
 clear hr0 hc0
 have HB := Aside0.mk (Below.refl w.heap.size w)
 have H : (endonymref2_Total.l0 k l0 0 false ([] : List Int)) = some (r1, r2) := h
 clear h
 have H' := Aside0.mk H
 clear H
 go_enter Tryz.func49, Tryz.ntmps49
 go_wp2_with (first | ((with_reducible refine gate_dst (N := 2) rfl ?_); refine box_event ?hg (N := 2) ?hd (cs := #[.bool false, .slice none 0 0]) (t := 73) ?hr ?_; (case hd => rfl); (case hg => rfl); (case hr => first | (go_simp; done) | (go_simp; rfl)); intro gb730 hg w2 hbox hb; have n0_ := Aside0.mk (below_step sqB hb); have n1_ := Aside0.mk (hbox); have n2_ := Aside0.mk ((by rw [hg]; exact (below_size sqB) : w.heap.size ≤ gb730)); have n3_ := Aside0.mk ((by rw [hg]; exact (below_size sqB) : w.heap.size ≤ gb730)); clear HB; have HB := n0_; have BK730 := n1_; have GW730 := n2_; have GE730 := n3_; clear n0_ n1_ n2_ n3_; clear hb hbox hg) | ((with_reducible refine gate_dst (N := 3) rfl ?_); refine box_event ?hg (N := 3) ?hd (cs := #[.bool false, .slice none 0 0]) (t := 73) ?hr ?_; (case hd => rfl); (case hg => rfl); (case hr => first | (go_simp; done) | (go_simp; rfl)); intro gb731 hg w3 hbox hb; have n0_ := Aside0.mk (blk_below (g := gb730) (o := .cells #[.bool false, .slice none 0 0] 73 (0, 0)) (by (with_reducible repeat (first | refine blk_drewN ?_ _ | refine blk_drew ?_ | refine blk_alloc ?_ _)); exact BK730.out) hb); have n1_ := Aside0.mk (below_step (by repeat (first | (with_reducible first | exact HB.out | apply below_alloc | apply pw_below_drewN | apply below_drew1 | refine below_set ?_ GE730.out) | exact HB.out)) hb); have n2_ := Aside0.mk (hbox); have n3_ := Aside0.mk ((by rw [hg]; exact (below_size (by repeat (first | (with_reducible first | exact HB.out | apply below_alloc | apply pw_below_drewN | apply below_drew1 | refine below_set ?_ GE730.out) | exact HB.out))) : w.heap.size ≤ gb731)); have n4_ := Aside0.mk ((by rw [hg]; exact (below_size (by repeat (first | (with_reducible first | exact HB.out | apply below_alloc | apply pw_below_drewN | apply below_drew1 | refine below_set ?_ GE730.out) | exact HB.out))) : w.heap.size ≤ gb731)); have n5_ := Aside0.mk ((by rw [hg]; exact Nat.ne_of_lt (blk_lt (g := gb730) (o := .cells #[.bool false, .slice none 0 0] 73 (0, 0)) (by (with_reducible repeat (first | refine blk_drewN ?_ _ | refine blk_drew ?_ | refine blk_alloc ?_ _)); exact BK730.out)) : gb730 ≠ gb731)); have n6_ := Aside0.mk ((by rw [hg]; exact Nat.ne_of_gt (blk_lt (g := gb730) (o := .cells #[.bool false, .slice none 0 0] 73 (0, 0)) (by (with_reducible repeat (first | refine blk_drewN ?_ _ | refine blk_drew ?_ | refine blk_alloc ?_ _)); exact BK730.out)) : gb731 ≠ gb730)); clear BK730; clear HB; have BK730 := n0_; have HB := n1_; have BK731 := n2_; have GW731 := n3_; have GE731 := n4_; have NB730_731 := n5_; have NB731_730 := n6_; clear n0_ n1_ n2_ n3_ n4_ n5_ n6_; clear hb hbox hg))
 try simp only [Act.put, List.setIfInBounds_toArray, List.set_cons_zero, List.set_cons_succ]
 go_loopg [4] k (fun kq v4 w' => ∃ (x4_1 : Int) (x732000_1 : Bool) (x732001_1 : List Int) (u732001 : Value), v4 = .int .i64 x4_1 ∧ Aside0 (endonymref2_Total.l0 kq l0 x4_1 x732000_1 x732001_1 = some (r1, r2)) ∧ Aside0 (kq ≤ k) ∧ Aside0 (Kd.R (Kd.int .u32) 83 w' w.heap.size (fun _ => True) u732001 x732001_1) ∧ Aside0 (w'.heap[gb730]? = some (.cells #[.bool false, (.slice none 0 0)] 73 (0, 0))) ∧ Aside0 (w'.heap[gb731]? = some (.cells #[.bool x732000_1, u732001] 73 (0, 0))) ∧ Aside0 (Below w.heap.size w w'))
 case atStart => exact ⟨(0), (false), (([] : List Int)), (.slice none 0 0), sqE, H', ⟨Nat.le_refl _⟩, ⟨by first | exact Kd.R_nil _ _ _ _ _ | exact Kd.N_nil _ _ _ _ _ | exact Kd.V_nil _ _ _ _ _ | exact Kd.Q_nil _ _ _ _ _ | exact Kd.S_nil _ _ _ _ _⟩, ⟨by (with_reducible repeat (first | refine blk_drewN ?_ _ | refine blk_drew ?_ | refine blk_alloc ?_ _)); exact BK730.out⟩, ⟨by (with_reducible repeat (first | refine blk_drewN ?_ _ | refine blk_drew ?_ | refine blk_alloc ?_ _)); exact BK731.out⟩, ⟨by repeat (first | (with_reducible first | exact HB.out | apply below_alloc | apply pw_below_drewN | apply below_drew1 | refine below_set ?_ GE730.out | refine below_set ?_ GE731.out) | exact HB.out)⟩⟩
 case round =>
  clear H'
  try clear p2
  obtain ⟨x4_1, x732000_1, x732001_1, u732001, rfl, HA, HK1, HO_732001, BK730, BK731, HB⟩ := hrel
  cases gk with
  | zero => exact absurd HA.out (by simp [endonymref2_Total.l0])
  | succ k1 =>
   have H := HA.out
   clear HA
   simp only [endonymref2_Total.l0] at H
   by_cases c4 : x4_1 < (l0.length : Int)
   ·rw [if_pos c4] at H
    have c4b0 := decide_eq_true c4
    clear c4
    by_cases c5 : 0 ≤ x4_1
    case neg => rw [if_neg c5] at H; exact absurd H (by simp)
    rw [if_pos c5] at H
    have c5b0 := decide_eq_true c5
    clear c5
    replace H := Option.bind_eq_some_iff.mp H
    obtain ⟨⟨t733, t734⟩, A60, H⟩ := H
    try dsimp only at H
    have A6 := Aside0.mk A60
    clear A60
    replace H := Option.bind_eq_some_iff.mp H
    obtain ⟨⟨t737, t738⟩, A70, H⟩ := H
    try dsimp only at H
    have A7 := Aside0.mk A70
    clear A70
    have H' := Aside0.mk H
    clear H
    try go_wp2
    have n0_ := Aside0.mk (Kd.R_drew HO_732001.out)
    have n1_ := Aside0.mk (blk_drew BK730.out)
    have n2_ := Aside0.mk (blk_drew BK731.out)
    have n3_ := Aside0.mk (below_drew1 HB.out)
    clear HO_732001
    clear BK730
    clear BK731
    clear HB
    have HO_732001 := n0_
    have BK730 := n1_
    have BK731 := n2_
    have HB := n3_
    clear n0_ n1_ n2_ n3_
    have p732 : 0 ≤ (x4_1 : Int) := sqD
    have q732 : x4_1 < (l0.length : Int) := sqD
    obtain ⟨ad732, e732, hx732_0⟩ := Kd.at_int HR0.out x4_1 p732 q732
    have hw732_0 := hx732_0
    cases e732
    replace hx732_0 := (HB.out.cell (World.block_lt_of_cell? w _ hx732_0)).trans hx732_0
    replace p732 := eq_true p732
    replace q732 := eq_true q732
    refine start_ (n := 8) (S := fun w' => w'.cell? ⟨gb731, 0, none⟩ = some (.bool x732000_1) ∧ w'.cell? ⟨gb731, 1, none⟩ = some (u732001) ∧ w'.cell? (ad732.add (x4_1).toNat) = some (.int .u64 (rd l0 x4_1))) (ds := [7]) #[false, false, false, false, false, false, false, false] (by kernel_rfl) rfl rfl ⟨(blk_cell BK731.out 0).trans rfl, (blk_cell BK731.out 1).trans rfl, ((HB.out.cell (World.block_lt_of_cell? w _ hw732_0)).trans hw732_0)⟩ (fun hHeld => ?_); refine with_tabW endonymref2_Total.tab5 endonymref2_Total.bits5 (fun HT_ HW_ => ?_)
    generalize wr.drew = w8 at HO_732001 BK730 BK731 HB hx732_0 hHeld ⊢
    refine pure_ (i := 1) (N := some 12) (v := ?_) (a' := ?_) #[false, true, false, false, false, false, false, false] rfl rfl (any_of HT_.out (by kernel_rfl)) (fun _ _ _ h => h) (Or.inl ⟨by rfl, ?_⟩) ?_ ?_
    rotate_left
    ·intro w'
     go_simp
     with_reducible rfl
    rotate_left
    ·simp only [Act.put, List.setIfInBounds_toArray, List.set_cons_zero, List.set_cons_succ, i64_w, i32_w]
     rfl
    refine pure_ (i := 2) (N := some 13) (v := ?_) (a' := ?_) #[false, true, true, false, false, false, false, false] rfl rfl (any_of HT_.out (by kernel_rfl)) (fun _ _ _ h => h) (Or.inl ⟨by rfl, ?_⟩) ?_ ?_
    rotate_left
    ·intro w'
     go_simp
     with_reducible rfl
    rotate_left
    ·simp only [Act.put, List.setIfInBounds_toArray, List.set_cons_zero, List.set_cons_succ, i64_w, i32_w]
     rfl
    refine pure_ (i := 3) (N := some 14) (v := ?_) (a' := ?_) #[false, true, true, true, false, false, false, false] rfl rfl (any_of HT_.out (by kernel_rfl)) (fun _ _ _ h => h) (Or.inl ⟨by rfl, ?_⟩) ?_ ?_
    rotate_left
    ·intro w'
     go_simp
     with_reducible rfl
    rotate_left
    ·simp only [Act.put, List.setIfInBounds_toArray, List.set_cons_zero, List.set_cons_succ, i64_w, i32_w]
     rfl
    refine take_ (i := 0) (N := some 11) (v := ?_) (a' := ?_) #[true, true, true, true, false, false, false, false] rfl rfl (take_ofW HT_.out HW_.out (by kernel_rfl)) (fun _ _ _ h => h) (Or.inl ⟨by rfl, ?_⟩) hHeld ?_ ?_
    rotate_left
    ·rintro w' ⟨s0, s1, s2⟩
     go_simp
     with_reducible rfl
    rotate_left
    ·simp only [Act.put, List.setIfInBounds_toArray, List.set_cons_zero, List.set_cons_succ, i64_w, i32_w]
     rfl
    refine take_ (i := 4) (N := some 15) (v := ?_) (a' := ?_) #[true, true, true, true, true, false, false, false] rfl rfl (take_ofW HT_.out HW_.out (by kernel_rfl)) (fun _ _ _ h => h) (Or.inl ⟨by rfl, ?_⟩) hHeld ?_ ?_
    rotate_left
    ·rintro w' ⟨s0, s1, s2⟩
     go_simp
     with_reducible rfl
    rotate_left
    ·simp only [Act.put, List.setIfInBounds_toArray, List.set_cons_zero, List.set_cons_succ, i64_w, i32_w]
     rfl
    refine one_ (i := 5) (N := some 16) #[true, true, true, true, true, true, false, false] rfl rfl (one_of HT_.out (by kernel_rfl)) (by decide) (fun K hK => ?_)
    refine goes_ Tryz.func85 (by kernel_rfl) rfl #[.int .u64 (rd l0 x4_1)] (by rfl) rfl rfl sqA ?_
    with_reducible refine (endonymref2_signed.calls k1 (rd l0 x4_1) t733 t734 _ A6.out).mono ?_
    rintro e w9 ⟨v735, rfl, ho0, hb⟩
    refine ⟨_, rfl, ?_⟩
    have n0_ := Aside0.mk (Kd.R_elder' (sqR HO_732001.out) (Kd.R_base ho0) hb)
    have n1_ := Aside0.mk (Kd.R_lower (Kd.R_new' ho0 (Kd.R_lt (sqR HO_732001.out))) (below_size (by repeat (first | (with_reducible first | exact HB.out | apply below_alloc | apply pw_below_drewN | apply below_drew1 | refine below_set ?_ GE730.out | refine below_set ?_ GE731.out) | exact HB.out))))
    have n2_ := Aside0.mk (blk_below (g := gb730) (o := .cells #[.bool false, .slice none 0 0] 73 (0, 0)) (by (with_reducible repeat (first | refine blk_drewN ?_ _ | refine blk_drew ?_ | refine blk_alloc ?_ _)); exact BK730.out) hb)
    have n3_ := Aside0.mk (blk_below (g := gb731) (o := .cells #[.bool x732000_1, u732001] 73 (0, 0)) (by (with_reducible repeat (first | refine blk_drewN ?_ _ | refine blk_drew ?_ | refine blk_alloc ?_ _)); exact BK731.out) hb)
    have n4_ := Aside0.mk (below_step (by repeat (first | (with_reducible first | exact HB.out | apply below_alloc | apply pw_below_drewN | apply below_drew1 | refine below_set ?_ GE730.out | refine below_set ?_ GE731.out) | exact HB.out)) hb)
    clear HO_732001
    clear BK730
    clear BK731
    clear HB
    have HO_732001 := n0_
    have HO736 := n1_
    have BK730 := n2_
    have BK731 := n3_
    have HB := n4_
    clear n0_ n1_ n2_ n3_ n4_
    (try clear hb)
    (try clear hb2)
    (try clear hk)
    (try clear hi)
    (try clear ho0)
    obtain ⟨Ao10, co10, eo10⟩ := Kd.R_slice HO_732001.out
    (first | subst eo10 | (injection eo10 with f1_ f2_ f3_; have f4_ := f1_.symm; have f5_ := f3_.symm; clear f1_ f2_ f3_; subst f4_; subst f5_))
    obtain ⟨Ao11, co11, eo11⟩ := Kd.R_slice HO736.out
    (first | subst eo11 | (injection eo11 with f1_ f2_ f3_; have f4_ := f1_.symm; have f5_ := f3_.symm; clear f1_ f2_ f3_; subst f4_; subst f5_))
    refine hK.out _ _ ⟨(blk_cell BK731.out 0).trans rfl, (blk_cell BK731.out 1).trans rfl, ((HB.out.cell (World.block_lt_of_cell? w _ hw732_0)).trans hw732_0)⟩ (fun hHeld => ?_)
    clear hK K
    refine norm_ (a' := ?_) ?_ ?_
    rotate_left
    ·show Act.put _ (some 16) _ = _
     simp only [Act.put, List.setIfInBounds_toArray, List.set_cons_zero, List.set_cons_succ, i64_w, i32_w]
     rfl
    refine one_ (i := 6) (N := some 17) #[true, true, true, true, true, true, true, false] rfl rfl (one_of HT_.out (by kernel_rfl)) (by decide) (fun K hK => ?_)
    refine goes_ Tryz.func84 (by kernel_rfl) rfl #[.agg #[.bool x732000_1, .slice Ao10 x732001_1.length co10], .agg #[.bool t733, .slice Ao11 t734.length co11]] (by rfl) rfl rfl sqA ?_
    with_reducible refine (endonymref2_plus.calls k1 x732000_1 _ _ x732001_1 t733 _ _ t734 t737 t738 _ ?side1 ?side2 ?side3 ?side4 A7.out).mono ?_
    (case side1 => repeat (first | exact (Kd.R_reads' HO_732001.out).2.2 | (with_reducible refine Kd.C_alloc ?_ _) | (with_reducible refine Kd.C_drewN ?_ _) | (with_reducible refine Kd.C_drew ?_)))
    (case side2 => exact (Kd.R_reads' HO_732001.out).2.1)
    (case side3 => repeat (first | exact (Kd.R_reads' HO736.out).2.2 | (with_reducible refine Kd.C_alloc ?_ _) | (with_reducible refine Kd.C_drewN ?_ _) | (with_reducible refine Kd.C_drew ?_)))
    (case side4 => exact (Kd.R_reads' HO736.out).2.1)
    rintro e w12 ⟨v739, rfl, ho0, hb⟩
    refine ⟨_, rfl, ?_⟩
    have n0_ := Aside0.mk (Kd.R_elder' (sqR HO_732001.out) (Kd.R_base ho0) hb)
    have n1_ := Aside0.mk (Kd.R_elder' (sqR HO736.out) (Kd.R_base ho0) hb)
    have n2_ := Aside0.mk (Kd.R_lower (Kd.R_new' (Kd.R_new' ho0 (Kd.R_lt (sqR HO_732001.out))) (Kd.R_lt (sqR HO736.out))) (below_size (by repeat (first | (with_reducible first | exact HB.out | apply below_alloc | apply pw_below_drewN | apply below_drew1 | refine below_set ?_ GE730.out | refine below_set ?_ GE731.out) | exact HB.out))))
    have n3_ := Aside0.mk (blk_below (g := gb730) (o := .cells #[.bool false, .slice none 0 0] 73 (0, 0)) (by (with_reducible repeat (first | refine blk_drewN ?_ _ | refine blk_drew ?_ | refine blk_alloc ?_ _)); exact BK730.out) hb)
    have n4_ := Aside0.mk (blk_below (g := gb731) (o := .cells #[.bool x732000_1, .slice Ao10 x732001_1.length co10] 73 (0, 0)) (by (with_reducible repeat (first | refine blk_drewN ?_ _ | refine blk_drew ?_ | refine blk_alloc ?_ _)); exact BK731.out) hb)
    have n5_ := Aside0.mk (below_step (by repeat (first | (with_reducible first | exact HB.out | apply below_alloc | apply pw_below_drewN | apply below_drew1 | refine below_set ?_ GE730.out | refine below_set ?_ GE731.out) | exact HB.out)) hb)
    clear HO_732001
    clear HO736
    clear BK730
    clear BK731
    clear HB
    have HO_732001 := n0_
    have HO736 := n1_
    have HO740 := n2_
    have BK730 := n3_
    have BK731 := n4_
    have HB := n5_
    clear n0_ n1_ n2_ n3_ n4_ n5_
    (try clear hb)
    (try clear hb2)
    (try clear hk)
    (try clear hi)
    (try clear ho0)
    obtain ⟨Ao14, co14, eo14⟩ := Kd.R_slice HO740.out
    (first | subst eo14 | (injection eo14 with f1_ f2_ f3_; have f4_ := f1_.symm; have f5_ := f3_.symm; clear f1_ f2_ f3_; subst f4_; subst f5_))
    refine hK.out _ _ ⟨(blk_cell BK731.out 0).trans rfl, (blk_cell BK731.out 1).trans rfl, ((HB.out.cell (World.block_lt_of_cell? w _ hw732_0)).trans hw732_0)⟩ (fun hHeld => ?_)
    clear hK K
    refine norm_ (a' := ?_) ?_ ?_
    rotate_left
    ·show Act.put _ (some 17) _ = _
     simp only [Act.put, List.setIfInBounds_toArray, List.set_cons_zero, List.set_cons_succ, i64_w, i32_w]
     rfl
    refine last_ (i := 7) (N := none) #[true, true, true, true, true, true, true, true] rfl rfl (one_of HT_.out (by kernel_rfl)) (by decide) (fun K hK => ?_)
    have hs13 : w12.cell? ⟨gb731, 0, none⟩ = some (.bool x732000_1) := (blk_cell BK731.out 0).trans rfl
    have hfs13 := blk_frozen BK731.out 0
    have hns13_0 := NB730_731.out
    have hms13_0 := NB731_730.out
    have hs15 : w12.cell? ⟨gb731, 1, none⟩ = some (.slice Ao10 x732001_1.length co10) := (blk_cell BK731.out 1).trans rfl
    have hfs15 := blk_frozen BK731.out 1
    have hns15_0 := NB730_731.out
    have hms15_0 := NB731_730.out
    refine skip_ (w1 := ?_) (by rfl) rfl ?_ ?_
    rotate_left
    ·go_simp
     rfl
    refine hK.out _ _ ?_
    clear hK K
    refine done_ (done_of HT_.out (by kernel_rfl)) ?_
    try go_wp2
    go_roundg k1
    case measure => have := HK1.out; omega
    case rel => exact ⟨(wrap64 (x4_1 + 1)), (t737), (t738), (.slice Ao14 t738.length co14), sqE, H', ⟨by have := HK1.out; omega⟩, ⟨by (with_reducible repeat (first | apply Kd.R_alloc | apply Kd.R_drewN | apply Kd.R_drew)); exact Kd.R_mono (Kd.R_far (p := ⟨gb731, 1, none⟩) (Kd.R_far (p := ⟨gb731, 0, none⟩) (Kd.R_types HO740.out BK731.out (by decide)) (fun _ hk => hk.2) (.bool t737)) (fun _ hk => hk.2) (.slice Ao14 t738.length co14)) (fun _ hk => trivial)⟩, ⟨by (with_reducible repeat (first | refine blk_drewN ?_ _ | refine blk_drew ?_ | refine blk_alloc ?_ _)); refine blk_far ?_ NB730_731.out _; (with_reducible repeat (first | refine blk_drewN ?_ _ | refine blk_drew ?_ | refine blk_alloc ?_ _)); refine blk_far ?_ NB730_731.out _; (with_reducible repeat (first | refine blk_drewN ?_ _ | refine blk_drew ?_ | refine blk_alloc ?_ _)); exact BK730.out⟩, ⟨by (with_reducible repeat (first | refine blk_drewN ?_ _ | refine blk_drew ?_ | refine blk_alloc ?_ _)); refine blk_put (cs := #[.bool t737, .slice Ao10 x732001_1.length co10]) ?_ 1 _ rfl; (with_reducible repeat (first | refine blk_drewN ?_ _ | refine blk_drew ?_ | refine blk_alloc ?_ _)); refine blk_put (cs := #[.bool x732000_1, .slice Ao10 x732001_1.length co10]) ?_ 0 _ rfl; (with_reducible repeat (first | refine blk_drewN ?_ _ | refine blk_drew ?_ | refine blk_alloc ?_ _)); exact BK731.out⟩, ⟨by repeat (first | (with_reducible first | exact HB.out | apply below_alloc | apply pw_below_drewN | apply below_drew1 | refine below_set ?_ GE730.out | refine below_set ?_ GE731.out) | exact HB.out)⟩⟩
   rw [if_neg c4] at H
   have c4b0 := decide_eq_false c4
   clear c4
   simp only [Option.some.injEq, Prod.mk.injEq] at H
   obtain ⟨rfl, rfl⟩ := H
   have hnb16 := NB731_730.out
   have hnc16 := NB730_731.out
   have hcz17_0 : wr.cell? ⟨gb731, 0, none⟩ = some (.bool x732000_1) := (blk_cell BK731.out 0).trans rfl
   have hcz17_1 : wr.cell? ⟨gb731, 1, none⟩ = some (u732001) := (blk_cell BK731.out 1).trans rfl
   have hfz17_0 := blk_frozen BK731.out 0
   have hfz17_1 := blk_frozen BK731.out 1
   have hcz18_0 : wr.cell? ⟨gb730, 0, none⟩ = some (.bool false) := (blk_cell BK730.out 0).trans rfl
   have hcz18_1 : wr.cell? ⟨gb730, 1, none⟩ = some (.slice none 0 0) := (blk_cell BK730.out 1).trans rfl
   have hfz18_0 := blk_frozen BK730.out 0
   have hfz18_1 := blk_frozen BK730.out 1
   obtain ⟨Ao19, co19, eo19⟩ := Kd.R_slice HO_732001.out
   subst eo19
   go_wp2
   refine bodyPost_ret (results_cell_row rfl _ _ gb730 73 #[.bool x732000_1, .slice Ao19 x732001_1.length co19] (0, 0) _ rfl (by (with_reducible repeat (first | refine blk_drewN ?_ _ | refine blk_drew ?_ | refine blk_alloc ?_ _)); refine blk_put (cs := #[.bool x732000_1, .slice none 0 0]) ?_ 1 _ rfl; (with_reducible repeat (first | refine blk_drewN ?_ _ | refine blk_drew ?_ | refine blk_alloc ?_ _)); refine blk_put (cs := #[.bool false, .slice none 0 0]) ?_ 0 _ rfl; (with_reducible repeat (first | refine blk_drewN ?_ _ | refine blk_drew ?_ | refine blk_alloc ?_ _)); exact BK730.out) Tryz.underlying73 rfl (by kernel_rfl)) rfl ?_
   exact ⟨_, sqE', by (with_reducible repeat (first | apply Kd.R_alloc | apply Kd.R_drewN | apply Kd.R_drew)); exact Kd.R_mono (Kd.R_far (p := ⟨gb730, 1, none⟩) (Kd.R_far (p := ⟨gb730, 0, none⟩) (Kd.R_types HO_732001.out BK730.out (by decide)) (fun _ hk => hk.2) (.bool x732000_1)) (fun _ hk => hk.2) (.slice Ao19 x732001_1.length co19)) (fun _ hk => trivial), by repeat (first | (with_reducible first | exact HB.out | apply below_alloc | apply pw_below_drewN | apply below_drew1 | refine below_set ?_ GE730.out | refine below_set ?_ GE731.out) | exact HB.out)⟩

end Go.Proofs.YtfmjdoofopamkaaGreatDoor.W
