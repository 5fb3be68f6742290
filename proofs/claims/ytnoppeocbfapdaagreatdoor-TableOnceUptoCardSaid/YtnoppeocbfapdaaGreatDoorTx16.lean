import Derived.Test.YtnoppeocbfapdaaGreatDoorTx0
import Derived.Test.YtnoppeocbfapdaaGreatDoorTx1
import Derived.Test.YtnoppeocbfapdaaGreatDoorTx5
namespace Go.Proofs.YtnoppeocbfapdaaGreatDoor.T
open Go.RowKit Go.Proofs.YtnoppeocbfapdaaGreatDoorW.PrintWords Go.Proofs.YtnoppeocbfapdaaGreatDoorW.PrintLast Go.Proofs.YtnoppeocbfapdaaGreatDoorW.PrintMore
set_option maxHeartbeats 8000000
set_option maxRecDepth 100000
attribute [local go_sem] max2_int min2_int max_two min_two max_three min_three max_four min_four
set_option linter.unusedVariables false
set_option linter.unusedSimpArgs false
def endonymlaw6_told.f : Option Bool := some true
theorem endonymlaw6_told.calls  (r : Bool) (w : World) (htab : Aside0 (Rm.Tab w)) (h : endonymlaw6_told.f  = some r) :
  Calls Tryz.prog 18 #[] w fun e w' => e = .returned (.bool r) ∧ Below w.heap.size w w' := by
 obtain rfl := Option.some.inj h
 exact Go.Ev.told_calls (by kernel_rfl) htab.out

mutual
def table_Find.j0 : Nat → List (S25) → Int → Int → Bool → Option (Int)
 | 0, _, _, _, _ => none
 | k + 1, x0, x1, x2, x14 => if x14 = true then (some (-1)) else (table_Find.l0 k x1 x2 x0 (x0.length : Int) 0)
def table_Find.l0 : Nat → Int → Int → List (S25) → Int → Int → Option (Int)
 | 0, _, _, _, _, _ => none
 | k + 1, x1, x2, x15, x16, x17 => if x17 < x16 then (if 0 ≤ x17 then (if x17 < (x15.length : Int) then ((table_Family.f k ((rd_T25 x15 x17).f0)).bind fun t540 => (if t540 = x1 then ((table_speaks.f ((rd_T25 x15 x17).f0) ((rd_T25 x15 x17).f1) ((rd_T25 x15 x17).f2) ((rd_T25 x15 x17).f3) ((rd_T25 x15 x17).f4) ((rd_T25 x15 x17).f5) ((rd_T25 x15 x17).f6) ((rd_T25 x15 x17).f7) (wrap64 (x2))).bind fun t541 => (if t541 = true then (some x17) else (table_Find.l0 k x1 x2 x15 x16 (wrap64 (x17 + 1))))) else (table_Find.l0 k x1 x2 x15 x16 (wrap64 (x17 + 1))))) else (none)) else (none)) else (some (-1))
end
def table_Find.f (k : Nat) (l0 : List (S25)) (a1 : Int) (a2 : Int) : Option (Int) := if a1 < 1 then (table_Find.j0 k l0 a1 a2 true) else (table_Find.j0 k l0 a1 a2 (decide (a1 > 9)))
theorem table_Find.mono_l : ∀ k, (∀ y0 y1 y2 y3, LeO (table_Find.j0 k y0 y1 y2 y3) (table_Find.j0 (k + 1) y0 y1 y2 y3)) ∧ (∀ y0 y1 y2 y3 y4, LeO (table_Find.l0 k y0 y1 y2 y3 y4) (table_Find.l0 (k + 1) y0 y1 y2 y3 y4))
 | 0 => ⟨fun _ _ _ _ r h => by simp [table_Find.j0] at h, fun _ _ _ _ _ r h => by simp [table_Find.l0] at h⟩
 | k + 1 => by
  obtain ⟨ih0, ih1⟩ := table_Find.mono_l k
  refine ⟨?_, ?_⟩
  ·intro y0 y1 y2 y3
   unfold table_Find.j0
   repeat' first | (with_reducible first | apply ih0 | apply ih1 | apply table_Family.mono | apply LeO.refl | apply LeO.none | refine LeO.ite ?_ ?_ | refine LeO.bind ?_ (fun _ => ?_)) | apply LeO.none | refine LeO.ite ?_ ?_ | refine LeO.bind ?_ (fun _ => ?_)
  intro y0 y1 y2 y3 y4
  unfold table_Find.l0
  repeat' first | (with_reducible first | apply ih0 | apply ih1 | apply table_Family.mono | apply LeO.refl | apply LeO.none | refine LeO.ite ?_ ?_ | refine LeO.bind ?_ (fun _ => ?_)) | apply LeO.none | refine LeO.ite ?_ ?_ | refine LeO.bind ?_ (fun _ => ?_)
theorem table_Find.mono : ∀ a0 a1 a2 k, LeO (table_Find.f k a0 a1 a2) (table_Find.f (k + 1) a0 a1 a2) := by
 intro a0 a1 a2 k
 obtain ⟨ih0, ih1⟩ := table_Find.mono_l k
 unfold table_Find.f
 repeat' first | (with_reducible first | apply ih0 | apply ih1 | apply table_Family.mono | apply LeO.refl | apply LeO.none | refine LeO.ite ?_ ?_ | refine LeO.bind ?_ (fun _ => ?_)) | apply LeO.none | refine LeO.ite ?_ ?_ | refine LeO.bind ?_ (fun _ => ?_)
theorem table_Find.calls (k : Nat) (A0 : Option Addr) (c0 : Nat) (l0 : List (S25)) (a1 : Int) (a2 : Int) (r : Int) (w : World) (hr0 : Kd.C k25 w A0 l0.length l0) (hc0 : l0.length ≤ c0) (h : table_Find.f k l0 a1 a2 = some r) :
  Calls Tryz.prog 30 #[.slice A0 l0.length c0, .int .i64 a1, .int .i32 a2] w fun e w' => e = .returned (.int .i64 r) ∧ Below w.heap.size w w' := by
 have hu25 := Tryz.underlying25
 have HR0 := Aside0.mk hr0
 have HC0 := Aside0.mk hc0
 clear hr0 hc0
 have HB := Aside0.mk (Below.refl w.heap.size w)
 have H : (if a1 < 1 then (table_Find.j0 k l0 a1 a2 true) else (table_Find.j0 k l0 a1 a2 (decide (a1 > 9)))) = some r := h
 clear h
 have HC4 := Aside0.mk H
 clear H
 go_enter Tryz.func30, Tryz.ntmps30
 go_upto_region 1 with (fail)
 go_cut [14] (fun v14 wc => ∃ (kq : Nat) (x14_3 : Bool), v14 = .bool x14_3 ∧ Aside0 (table_Find.j0 kq l0 a1 a2 x14_3 = some r) ∧ Aside0 (kq ≤ k) ∧ Aside0 (Below w.heap.size w wc))
 case first =>
  have H := HC4.out
  clear HC4
  by_cases c5 : a1 < 1
  ·rw [if_pos c5] at H
   have c5b0 := decide_eq_true c5
   clear c5
   (first | rw [c5b0] | (simp only [i64_w, i32_w]; rw [c5b0]) | skip)
   have H' := Aside0.mk H
   clear H
   go_wp2
   go_meet
   case rel => exact ⟨_, (true), sqE, H', ⟨by first | omega | exact Nat.le_refl _⟩, ⟨sqB⟩⟩
  rw [if_neg c5] at H
  have c5b0 := decide_eq_false c5
  clear c5
  (first | rw [c5b0] | (simp only [i64_w, i32_w]; rw [c5b0]) | skip)
  have H' := Aside0.mk H
  clear H
  go_wp2
  go_meet
  case rel => exact ⟨_, (decide (a1 > 9)), sqE, H', ⟨by first | omega | exact Nat.le_refl _⟩, ⟨sqB⟩⟩
 case rest =>
  clear HC4
  try clear p2
  try clear c3
  try clear c5
  try clear c5b0
  obtain ⟨kq, x14_3, rfl, HA, HJ3, HB⟩ := hcut
  cases kq with
  | zero => exact absurd HA.out (by simp [table_Find.j0])
  | succ kj3 =>
   have H := HA.out
   clear HA
   simp only [table_Find.j0] at H
   by_cases c6 : x14_3 = true
   ·subst c6
    have H1 : (some (-1)) = some r := by rw [if_pos rfl] at H; exact H
    clear H
    have H := H1
    clear H1
    obtain rfl := Option.some.inj H
    go_wp2
    go_ret
    exact ⟨sqE', sqB⟩
   replace c6 := Bool.eq_false_iff.mpr c6
   subst c6
   have H1 : (table_Find.l0 kj3 a1 a2 l0 (l0.length : Int) 0) = some r := by rw [if_neg (show ¬ (false = true) by decide)] at H; exact H
   clear H
   have H := H1
   clear H1
   have H' := Aside0.mk H
   clear H
   go_wp2
   go_loopg [17] kj3 (fun kq v17 w' => ∃ (x17_2 : Int), v17 = .int .i64 x17_2 ∧ Aside0 (table_Find.l0 kq a1 a2 l0 (l0.length : Int) x17_2 = some r) ∧ Aside0 (kq ≤ kj3) ∧ Aside0 (Below w.heap.size w w'))
   case atStart => exact ⟨(0), sqE, H', ⟨Nat.le_refl _⟩, ⟨sqB⟩⟩
   case round =>
    clear H'
    try clear p2
    try clear c3
    try clear c5
    try clear c5b0
    try clear c6
    try clear p2
    obtain ⟨x17_2, rfl, HA, HK2, HB⟩ := hrel
    cases gk with
    | zero => exact absurd HA.out (by simp [table_Find.l0])
    | succ k2 =>
     have H := HA.out
     clear HA
     simp only [table_Find.l0] at H
     by_cases c7 : x17_2 < (l0.length : Int)
     case neg =>
      rw [if_neg c7] at H
      have c7b0 := decide_eq_false c7
      clear c7
      obtain rfl := Option.some.inj H
      go_wp2
      go_ret
      exact ⟨sqE', sqB⟩
     rw [if_pos c7] at H
     have c7b0 := decide_eq_true c7
     clear c7
     by_cases c8 : 0 ≤ x17_2
     case neg => rw [if_neg c8] at H; exact absurd H (by simp)
     rw [if_pos c8] at H
     have c8b0 := decide_eq_true c8
     clear c8
     by_cases c9 : x17_2 < (l0.length : Int)
     case neg => rw [if_neg c9] at H; exact absurd H (by simp)
     rw [if_pos c9] at H
     have c9b0 := decide_eq_true c9
     clear c9
     obtain ⟨t540, A10, H⟩ := sqO H
     try dsimp only at H
     by_cases c11 : t540 = a1
     case neg =>
      rw [if_neg c11] at H
      have c11b0 := beq_eq_false_iff_ne.mpr c11
      have c11b1 := bne_iff_ne.mpr c11
      have H' := Aside0.mk H
      clear H
      have p538 : 0 ≤ (x17_2 : Int) := sqD
      have q538 : x17_2 < (l0.length : Int) := sqD
      obtain ⟨ad538, A538_4, c538_4, e538, hx538_0, hx538_1, hx538_2, hx538_3, hx538_4, hx538_5, hx538_6, hx538_7, hl538_4, hi538_4⟩ := at_T25 HR0.out x17_2 p538 q538
      cases e538
      replace hx538_0 := (HB.out.cell (World.block_lt_of_cell? w _ hx538_0)).trans hx538_0
      replace hx538_1 := (HB.out.cell (World.block_lt_of_cell? w _ hx538_1)).trans hx538_1
      replace hx538_2 := (HB.out.cell (World.block_lt_of_cell? w _ hx538_2)).trans hx538_2
      replace hx538_3 := (HB.out.cell (World.block_lt_of_cell? w _ hx538_3)).trans hx538_3
      replace hx538_4 := (HB.out.cell (World.block_lt_of_cell? w _ hx538_4)).trans hx538_4
      replace hx538_5 := (HB.out.cell (World.block_lt_of_cell? w _ hx538_5)).trans hx538_5
      replace hx538_6 := (HB.out.cell (World.block_lt_of_cell? w _ hx538_6)).trans hx538_6
      replace hx538_7 := (HB.out.cell (World.block_lt_of_cell? w _ hx538_7)).trans hx538_7
      have HR538_4 := Aside0.mk hi538_4
      have HC538_4 := Aside0.mk hl538_4
      clear hi538_4 hl538_4
      replace p538 := eq_true p538
      replace q538 := eq_true q538
      go_wp2_with (first | ((with_reducible refine gate_dst (N := 8) rfl ?_); refine box_event ?hg (N := 8) ?hd (cs := #[.int .i64 0, .int .i64 0, .int .i64 0, .int .i64 0, .slice none 0 0, .string (⟨#[]⟩ : ByteArray), .string (⟨#[]⟩ : ByteArray), .float .f64 (0 : Nat)]) (t := 25) ?hr ?_; (case hd => rfl); (case hg => rfl); (case hr => first | (go_simp; done) | (go_simp; rfl)); intro gb539 hg w20 hbox hb; have n0_ := Aside0.mk (below_step sqB hb); have n1_ := Aside0.mk (hbox); have n2_ := Aside0.mk ((by rw [hg]; exact (below_size sqB) : w.heap.size ≤ gb539)); have n3_ := Aside0.mk ((by rw [hg]; exact (below_size sqB) : w.heap.size ≤ gb539)); clear HB; have HB := n0_; have BK539 := n1_; have GW539 := n2_; have GE539 := n3_; clear n0_ n1_ n2_ n3_; clear hb hbox hg; have hcz21_0 : w20.cell? ⟨gb539, 0, none⟩ = some (.int .i64 0) := (blk_cell BK539.out 0).trans rfl; have hcz21_1 : w20.cell? ⟨gb539, 1, none⟩ = some (.int .i64 0) := (blk_cell BK539.out 1).trans rfl; have hcz21_2 : w20.cell? ⟨gb539, 2, none⟩ = some (.int .i64 0) := (blk_cell BK539.out 2).trans rfl; have hcz21_3 : w20.cell? ⟨gb539, 3, none⟩ = some (.int .i64 0) := (blk_cell BK539.out 3).trans rfl; have hcz21_4 : w20.cell? ⟨gb539, 4, none⟩ = some (.slice none 0 0) := (blk_cell BK539.out 4).trans rfl; have hcz21_5 : w20.cell? ⟨gb539, 5, none⟩ = some (.string (⟨#[]⟩ : ByteArray)) := (blk_cell BK539.out 5).trans rfl; have hcz21_6 : w20.cell? ⟨gb539, 6, none⟩ = some (.string (⟨#[]⟩ : ByteArray)) := (blk_cell BK539.out 6).trans rfl; have hcz21_7 : w20.cell? ⟨gb539, 7, none⟩ = some (.float .f64 (0 : Nat)) := (blk_cell BK539.out 7).trans rfl; have hfz21_0 := blk_frozen BK539.out 0; have hfz21_1 := blk_frozen BK539.out 1; have hfz21_2 := blk_frozen BK539.out 2; have hfz21_3 := blk_frozen BK539.out 3; have hfz21_4 := blk_frozen BK539.out 4; have hfz21_5 := blk_frozen BK539.out 5; have hfz21_6 := blk_frozen BK539.out 6; have hfz21_7 := blk_frozen BK539.out 7) | ((with_reducible refine gate_callee (f := 32) rfl ?_); refine goesL_ (some 24) rfl rfl Tryz.func32 (by kernel_rfl) rfl #[.int .i64 ((rd_T25 l0 x17_2).f0)] rfl sqA ?_; (with_reducible refine (table_Family.calls k2 ((rd_T25 l0 x17_2).f0) t540 _ A10.out).mono ?_); rintro e w' ⟨rfl, ⟨nd, rfl⟩⟩; refine ⟨_, rfl, ?_⟩))
      go_roundg k2
      case measure => have := HJ3.out; have := HK2.out; omega
      case rel => exact ⟨(wrap64 (x17_2 + 1)), sqE, H', ⟨by have := HJ3.out; have := HK2.out; omega⟩, ⟨by repeat (first | (with_reducible first | exact HB.out | apply below_alloc | apply pw_below_drewN | apply below_drew1 | refine below_set ?_ GE539.out) | exact HB.out)⟩⟩
     rw [if_pos c11] at H
     have c11b0 := beq_iff_eq.mpr c11
     have c11b1 := bne_eq_false_iff_eq.mpr c11
     clear c11
     obtain ⟨t541, A12, H⟩ := sqO H
     try dsimp only at H
     by_cases c13 : t541 = true
     ·subst c13
      have H1 : (some x17_2) = some r := by rw [if_pos rfl] at H; exact H
      clear H
      have H := H1
      clear H1
      obtain rfl := Option.some.inj H
      have p538 : 0 ≤ (x17_2 : Int) := sqD
      have q538 : x17_2 < (l0.length : Int) := sqD
      obtain ⟨ad538, A538_4, c538_4, e538, hx538_0, hx538_1, hx538_2, hx538_3, hx538_4, hx538_5, hx538_6, hx538_7, hl538_4, hi538_4⟩ := at_T25 HR0.out x17_2 p538 q538
      cases e538
      replace hx538_0 := (HB.out.cell (World.block_lt_of_cell? w _ hx538_0)).trans hx538_0
      replace hx538_1 := (HB.out.cell (World.block_lt_of_cell? w _ hx538_1)).trans hx538_1
      replace hx538_2 := (HB.out.cell (World.block_lt_of_cell? w _ hx538_2)).trans hx538_2
      replace hx538_3 := (HB.out.cell (World.block_lt_of_cell? w _ hx538_3)).trans hx538_3
      replace hx538_4 := (HB.out.cell (World.block_lt_of_cell? w _ hx538_4)).trans hx538_4
      replace hx538_5 := (HB.out.cell (World.block_lt_of_cell? w _ hx538_5)).trans hx538_5
      replace hx538_6 := (HB.out.cell (World.block_lt_of_cell? w _ hx538_6)).trans hx538_6
      replace hx538_7 := (HB.out.cell (World.block_lt_of_cell? w _ hx538_7)).trans hx538_7
      have HR538_4 := Aside0.mk hi538_4
      have HC538_4 := Aside0.mk hl538_4
      clear hi538_4 hl538_4
      replace p538 := eq_true p538
      replace q538 := eq_true q538
      go_wp2_with (first | ((with_reducible refine gate_dst (N := 8) rfl ?_); refine box_event ?hg (N := 8) ?hd (cs := #[.int .i64 0, .int .i64 0, .int .i64 0, .int .i64 0, .slice none 0 0, .string (⟨#[]⟩ : ByteArray), .string (⟨#[]⟩ : ByteArray), .float .f64 (0 : Nat)]) (t := 25) ?hr ?_; (case hd => rfl); (case hg => rfl); (case hr => first | (go_simp; done) | (go_simp; rfl)); intro gb539 hg w14 hbox hb; have n0_ := Aside0.mk (below_step sqB hb); have n1_ := Aside0.mk (hbox); have n2_ := Aside0.mk ((by rw [hg]; exact (below_size sqB) : w.heap.size ≤ gb539)); have n3_ := Aside0.mk ((by rw [hg]; exact (below_size sqB) : w.heap.size ≤ gb539)); clear HB; have HB := n0_; have BK539 := n1_; have GW539 := n2_; have GE539 := n3_; clear n0_ n1_ n2_ n3_; clear hb hbox hg; have hcz15_0 : w14.cell? ⟨gb539, 0, none⟩ = some (.int .i64 0) := (blk_cell BK539.out 0).trans rfl; have hcz15_1 : w14.cell? ⟨gb539, 1, none⟩ = some (.int .i64 0) := (blk_cell BK539.out 1).trans rfl; have hcz15_2 : w14.cell? ⟨gb539, 2, none⟩ = some (.int .i64 0) := (blk_cell BK539.out 2).trans rfl; have hcz15_3 : w14.cell? ⟨gb539, 3, none⟩ = some (.int .i64 0) := (blk_cell BK539.out 3).trans rfl; have hcz15_4 : w14.cell? ⟨gb539, 4, none⟩ = some (.slice none 0 0) := (blk_cell BK539.out 4).trans rfl; have hcz15_5 : w14.cell? ⟨gb539, 5, none⟩ = some (.string (⟨#[]⟩ : ByteArray)) := (blk_cell BK539.out 5).trans rfl; have hcz15_6 : w14.cell? ⟨gb539, 6, none⟩ = some (.string (⟨#[]⟩ : ByteArray)) := (blk_cell BK539.out 6).trans rfl; have hcz15_7 : w14.cell? ⟨gb539, 7, none⟩ = some (.float .f64 (0 : Nat)) := (blk_cell BK539.out 7).trans rfl; have hfz15_0 := blk_frozen BK539.out 0; have hfz15_1 := blk_frozen BK539.out 1; have hfz15_2 := blk_frozen BK539.out 2; have hfz15_3 := blk_frozen BK539.out 3; have hfz15_4 := blk_frozen BK539.out 4; have hfz15_5 := blk_frozen BK539.out 5; have hfz15_6 := blk_frozen BK539.out 6; have hfz15_7 := blk_frozen BK539.out 7) | ((with_reducible refine gate_callee (f := 32) rfl ?_); refine goesL_ (some 24) rfl rfl Tryz.func32 (by kernel_rfl) rfl #[.int .i64 ((rd_T25 l0 x17_2).f0)] rfl sqA ?_; (with_reducible refine (table_Family.calls k2 ((rd_T25 l0 x17_2).f0) t540 _ A10.out).mono ?_); rintro e w' ⟨rfl, ⟨nd, rfl⟩⟩; refine ⟨_, rfl, ?_⟩) | (go_at_call 70; (with_reducible refine (table_speaks.calls ((rd_T25 l0 x17_2).f0) ((rd_T25 l0 x17_2).f1) ((rd_T25 l0 x17_2).f2) ((rd_T25 l0 x17_2).f3) _ _ ((rd_T25 l0 x17_2).f4) ((rd_T25 l0 x17_2).f5) ((rd_T25 l0 x17_2).f6) ((rd_T25 l0 x17_2).f7) (wrap64 (a2)) true _ ?side1 ?side2 A12.out).mono ?_); (case side1 => exact Kd.C_below HR538_4.out (by repeat (first | (with_reducible first | exact HB.out | apply below_alloc | apply pw_below_drewN | apply below_drew1 | refine below_set ?_ GE539.out) | exact HB.out))); (case side2 => exact HC538_4.out); rintro e w16 ⟨rfl, hb⟩; have n0_ := Aside0.mk (blk_below (g := gb539) (o := .cells #[.int .i64 ((rd_T25 l0 x17_2).f0), .int .i64 ((rd_T25 l0 x17_2).f1), .int .i64 ((rd_T25 l0 x17_2).f2), .int .i64 ((rd_T25 l0 x17_2).f3), .slice A538_4 ((rd_T25 l0 x17_2).f4).length c538_4, .string ((rd_T25 l0 x17_2).f5), .string ((rd_T25 l0 x17_2).f6), .float .f64 ((rd_T25 l0 x17_2).f7)] 25 (0, 0)) (by (with_reducible repeat (first | refine blk_drewN ?_ _ | refine blk_drew ?_ | refine blk_alloc ?_ _)); refine blk_put (cs := #[.int .i64 ((rd_T25 l0 x17_2).f0), .int .i64 ((rd_T25 l0 x17_2).f1), .int .i64 ((rd_T25 l0 x17_2).f2), .int .i64 ((rd_T25 l0 x17_2).f3), .slice A538_4 ((rd_T25 l0 x17_2).f4).length c538_4, .string ((rd_T25 l0 x17_2).f5), .string ((rd_T25 l0 x17_2).f6), .float .f64 (0 : Nat)]) ?_ 7 _ rfl; (with_reducible repeat (first | refine blk_drewN ?_ _ | refine blk_drew ?_ | refine blk_alloc ?_ _)); refine blk_put (cs := #[.int .i64 ((rd_T25 l0 x17_2).f0), .int .i64 ((rd_T25 l0 x17_2).f1), .int .i64 ((rd_T25 l0 x17_2).f2), .int .i64 ((rd_T25 l0 x17_2).f3), .slice A538_4 ((rd_T25 l0 x17_2).f4).length c538_4, .string ((rd_T25 l0 x17_2).f5), .string (⟨#[]⟩ : ByteArray), .float .f64 (0 : Nat)]) ?_ 6 _ rfl; (with_reducible repeat (first | refine blk_drewN ?_ _ | refine blk_drew ?_ | refine blk_alloc ?_ _)); refine blk_put (cs := #[.int .i64 ((rd_T25 l0 x17_2).f0), .int .i64 ((rd_T25 l0 x17_2).f1), .int .i64 ((rd_T25 l0 x17_2).f2), .int .i64 ((rd_T25 l0 x17_2).f3), .slice A538_4 ((rd_T25 l0 x17_2).f4).length c538_4, .string (⟨#[]⟩ : ByteArray), .string (⟨#[]⟩ : ByteArray), .float .f64 (0 : Nat)]) ?_ 5 _ rfl; (with_reducible repeat (first | refine blk_drewN ?_ _ | refine blk_drew ?_ | refine blk_alloc ?_ _)); refine blk_put (cs := #[.int .i64 ((rd_T25 l0 x17_2).f0), .int .i64 ((rd_T25 l0 x17_2).f1), .int .i64 ((rd_T25 l0 x17_2).f2), .int .i64 ((rd_T25 l0 x17_2).f3), .slice none 0 0, .string (⟨#[]⟩ : ByteArray), .string (⟨#[]⟩ : ByteArray), .float .f64 (0 : Nat)]) ?_ 4 _ rfl; (with_reducible repeat (first | refine blk_drewN ?_ _ | refine blk_drew ?_ | refine blk_alloc ?_ _)); refine blk_put (cs := #[.int .i64 ((rd_T25 l0 x17_2).f0), .int .i64 ((rd_T25 l0 x17_2).f1), .int .i64 ((rd_T25 l0 x17_2).f2), .int .i64 0, .slice none 0 0, .string (⟨#[]⟩ : ByteArray), .string (⟨#[]⟩ : ByteArray), .float .f64 (0 : Nat)]) ?_ 3 _ rfl; (with_reducible repeat (first | refine blk_drewN ?_ _ | refine blk_drew ?_ | refine blk_alloc ?_ _)); refine blk_put (cs := #[.int .i64 ((rd_T25 l0 x17_2).f0), .int .i64 ((rd_T25 l0 x17_2).f1), .int .i64 0, .int .i64 0, .slice none 0 0, .string (⟨#[]⟩ : ByteArray), .string (⟨#[]⟩ : ByteArray), .float .f64 (0 : Nat)]) ?_ 2 _ rfl; (with_reducible repeat (first | refine blk_drewN ?_ _ | refine blk_drew ?_ | refine blk_alloc ?_ _)); refine blk_put (cs := #[.int .i64 ((rd_T25 l0 x17_2).f0), .int .i64 0, .int .i64 0, .int .i64 0, .slice none 0 0, .string (⟨#[]⟩ : ByteArray), .string (⟨#[]⟩ : ByteArray), .float .f64 (0 : Nat)]) ?_ 1 _ rfl; (with_reducible repeat (first | refine blk_drewN ?_ _ | refine blk_drew ?_ | refine blk_alloc ?_ _)); refine blk_put (cs := #[.int .i64 0, .int .i64 0, .int .i64 0, .int .i64 0, .slice none 0 0, .string (⟨#[]⟩ : ByteArray), .string (⟨#[]⟩ : ByteArray), .float .f64 (0 : Nat)]) ?_ 0 _ rfl; (with_reducible repeat (first | refine blk_drewN ?_ _ | refine blk_drew ?_ | refine blk_alloc ?_ _)); exact BK539.out) hb); have n1_ := Aside0.mk (below_step (by repeat (first | (with_reducible first | exact HB.out | apply below_alloc | apply pw_below_drewN | apply below_drew1 | refine below_set ?_ GE539.out) | exact HB.out)) hb); clear BK539; clear HB; have BK539 := n0_; have HB := n1_; clear n0_ n1_; (try clear hb); (try clear hb2); (try clear hk); (try clear hi)))
      go_ret
      exact ⟨sqE', by repeat (first | (with_reducible first | exact HB.out | apply below_alloc | apply pw_below_drewN | apply below_drew1 | refine below_set ?_ GE539.out) | exact HB.out)⟩
     replace c13 := Bool.eq_false_iff.mpr c13
     subst c13
     have H1 : (table_Find.l0 k2 a1 a2 l0 (l0.length : Int) (wrap64 (x17_2 + 1))) = some r := by rw [if_neg (show ¬ (false = true) by decide)] at H; exact H
     clear H
     have H := H1
     clear H1
     have H' := Aside0.mk H
     clear H
     have p538 : 0 ≤ (x17_2 : Int) := sqD
     have q538 : x17_2 < (l0.length : Int) := sqD
     obtain ⟨ad538, A538_4, c538_4, e538, hx538_0, hx538_1, hx538_2, hx538_3, hx538_4, hx538_5, hx538_6, hx538_7, hl538_4, hi538_4⟩ := at_T25 HR0.out x17_2 p538 q538
     cases e538
     replace hx538_0 := (HB.out.cell (World.block_lt_of_cell? w _ hx538_0)).trans hx538_0
     replace hx538_1 := (HB.out.cell (World.block_lt_of_cell? w _ hx538_1)).trans hx538_1
     replace hx538_2 := (HB.out.cell (World.block_lt_of_cell? w _ hx538_2)).trans hx538_2
     replace hx538_3 := (HB.out.cell (World.block_lt_of_cell? w _ hx538_3)).trans hx538_3
     replace hx538_4 := (HB.out.cell (World.block_lt_of_cell? w _ hx538_4)).trans hx538_4
     replace hx538_5 := (HB.out.cell (World.block_lt_of_cell? w _ hx538_5)).trans hx538_5
     replace hx538_6 := (HB.out.cell (World.block_lt_of_cell? w _ hx538_6)).trans hx538_6
     replace hx538_7 := (HB.out.cell (World.block_lt_of_cell? w _ hx538_7)).trans hx538_7
     have HR538_4 := Aside0.mk hi538_4
     have HC538_4 := Aside0.mk hl538_4
     clear hi538_4 hl538_4
     replace p538 := eq_true p538
     replace q538 := eq_true q538
     go_wp2_with (first | ((with_reducible refine gate_dst (N := 8) rfl ?_); refine box_event ?hg (N := 8) ?hd (cs := #[.int .i64 0, .int .i64 0, .int .i64 0, .int .i64 0, .slice none 0 0, .string (⟨#[]⟩ : ByteArray), .string (⟨#[]⟩ : ByteArray), .float .f64 (0 : Nat)]) (t := 25) ?hr ?_; (case hd => rfl); (case hg => rfl); (case hr => first | (go_simp; done) | (go_simp; rfl)); intro gb539 hg w17 hbox hb; have n0_ := Aside0.mk (below_step sqB hb); have n1_ := Aside0.mk (hbox); have n2_ := Aside0.mk ((by rw [hg]; exact (below_size sqB) : w.heap.size ≤ gb539)); have n3_ := Aside0.mk ((by rw [hg]; exact (below_size sqB) : w.heap.size ≤ gb539)); clear HB; have HB := n0_; have BK539 := n1_; have GW539 := n2_; have GE539 := n3_; clear n0_ n1_ n2_ n3_; clear hb hbox hg; have hcz18_0 : w17.cell? ⟨gb539, 0, none⟩ = some (.int .i64 0) := (blk_cell BK539.out 0).trans rfl; have hcz18_1 : w17.cell? ⟨gb539, 1, none⟩ = some (.int .i64 0) := (blk_cell BK539.out 1).trans rfl; have hcz18_2 : w17.cell? ⟨gb539, 2, none⟩ = some (.int .i64 0) := (blk_cell BK539.out 2).trans rfl; have hcz18_3 : w17.cell? ⟨gb539, 3, none⟩ = some (.int .i64 0) := (blk_cell BK539.out 3).trans rfl; have hcz18_4 : w17.cell? ⟨gb539, 4, none⟩ = some (.slice none 0 0) := (blk_cell BK539.out 4).trans rfl; have hcz18_5 : w17.cell? ⟨gb539, 5, none⟩ = some (.string (⟨#[]⟩ : ByteArray)) := (blk_cell BK539.out 5).trans rfl; have hcz18_6 : w17.cell? ⟨gb539, 6, none⟩ = some (.string (⟨#[]⟩ : ByteArray)) := (blk_cell BK539.out 6).trans rfl; have hcz18_7 : w17.cell? ⟨gb539, 7, none⟩ = some (.float .f64 (0 : Nat)) := (blk_cell BK539.out 7).trans rfl; have hfz18_0 := blk_frozen BK539.out 0; have hfz18_1 := blk_frozen BK539.out 1; have hfz18_2 := blk_frozen BK539.out 2; have hfz18_3 := blk_frozen BK539.out 3; have hfz18_4 := blk_frozen BK539.out 4; have hfz18_5 := blk_frozen BK539.out 5; have hfz18_6 := blk_frozen BK539.out 6; have hfz18_7 := blk_frozen BK539.out 7) | ((with_reducible refine gate_callee (f := 32) rfl ?_); refine goesL_ (some 24) rfl rfl Tryz.func32 (by kernel_rfl) rfl #[.int .i64 ((rd_T25 l0 x17_2).f0)] rfl sqA ?_; (with_reducible refine (table_Family.calls k2 ((rd_T25 l0 x17_2).f0) t540 _ A10.out).mono ?_); rintro e w' ⟨rfl, ⟨nd, rfl⟩⟩; refine ⟨_, rfl, ?_⟩) | (go_at_call 70; (with_reducible refine (table_speaks.calls ((rd_T25 l0 x17_2).f0) ((rd_T25 l0 x17_2).f1) ((rd_T25 l0 x17_2).f2) ((rd_T25 l0 x17_2).f3) _ _ ((rd_T25 l0 x17_2).f4) ((rd_T25 l0 x17_2).f5) ((rd_T25 l0 x17_2).f6) ((rd_T25 l0 x17_2).f7) (wrap64 (a2)) false _ ?side1 ?side2 A12.out).mono ?_); (case side1 => exact Kd.C_below HR538_4.out (by repeat (first | (with_reducible first | exact HB.out | apply below_alloc | apply pw_below_drewN | apply below_drew1 | refine below_set ?_ GE539.out) | exact HB.out))); (case side2 => exact HC538_4.out); rintro e w19 ⟨rfl, hb⟩; have n0_ := Aside0.mk (blk_below (g := gb539) (o := .cells #[.int .i64 ((rd_T25 l0 x17_2).f0), .int .i64 ((rd_T25 l0 x17_2).f1), .int .i64 ((rd_T25 l0 x17_2).f2), .int .i64 ((rd_T25 l0 x17_2).f3), .slice A538_4 ((rd_T25 l0 x17_2).f4).length c538_4, .string ((rd_T25 l0 x17_2).f5), .string ((rd_T25 l0 x17_2).f6), .float .f64 ((rd_T25 l0 x17_2).f7)] 25 (0, 0)) (by (with_reducible repeat (first | refine blk_drewN ?_ _ | refine blk_drew ?_ | refine blk_alloc ?_ _)); refine blk_put (cs := #[.int .i64 ((rd_T25 l0 x17_2).f0), .int .i64 ((rd_T25 l0 x17_2).f1), .int .i64 ((rd_T25 l0 x17_2).f2), .int .i64 ((rd_T25 l0 x17_2).f3), .slice A538_4 ((rd_T25 l0 x17_2).f4).length c538_4, .string ((rd_T25 l0 x17_2).f5), .string ((rd_T25 l0 x17_2).f6), .float .f64 (0 : Nat)]) ?_ 7 _ rfl; (with_reducible repeat (first | refine blk_drewN ?_ _ | refine blk_drew ?_ | refine blk_alloc ?_ _)); refine blk_put (cs := #[.int .i64 ((rd_T25 l0 x17_2).f0), .int .i64 ((rd_T25 l0 x17_2).f1), .int .i64 ((rd_T25 l0 x17_2).f2), .int .i64 ((rd_T25 l0 x17_2).f3), .slice A538_4 ((rd_T25 l0 x17_2).f4).length c538_4, .string ((rd_T25 l0 x17_2).f5), .string (⟨#[]⟩ : ByteArray), .float .f64 (0 : Nat)]) ?_ 6 _ rfl; (with_reducible repeat (first | refine blk_drewN ?_ _ | refine blk_drew ?_ | refine blk_alloc ?_ _)); refine blk_put (cs := #[.int .i64 ((rd_T25 l0 x17_2).f0), .int .i64 ((rd_T25 l0 x17_2).f1), .int .i64 ((rd_T25 l0 x17_2).f2), .int .i64 ((rd_T25 l0 x17_2).f3), .slice A538_4 ((rd_T25 l0 x17_2).f4).length c538_4, .string (⟨#[]⟩ : ByteArray), .string (⟨#[]⟩ : ByteArray), .float .f64 (0 : Nat)]) ?_ 5 _ rfl; (with_reducible repeat (first | refine blk_drewN ?_ _ | refine blk_drew ?_ | refine blk_alloc ?_ _)); refine blk_put (cs := #[.int .i64 ((rd_T25 l0 x17_2).f0), .int .i64 ((rd_T25 l0 x17_2).f1), .int .i64 ((rd_T25 l0 x17_2).f2), .int .i64 ((rd_T25 l0 x17_2).f3), .slice none 0 0, .string (⟨#[]⟩ : ByteArray), .string (⟨#[]⟩ : ByteArray), .float .f64 (0 : Nat)]) ?_ 4 _ rfl; (with_reducible repeat (first | refine blk_drewN ?_ _ | refine blk_drew ?_ | refine blk_alloc ?_ _)); refine blk_put (cs := #[.int .i64 ((rd_T25 l0 x17_2).f0), .int .i64 ((rd_T25 l0 x17_2).f1), .int .i64 ((rd_T25 l0 x17_2).f2), .int .i64 0, .slice none 0 0, .string (⟨#[]⟩ : ByteArray), .string (⟨#[]⟩ : ByteArray), .float .f64 (0 : Nat)]) ?_ 3 _ rfl; (with_reducible repeat (first | refine blk_drewN ?_ _ | refine blk_drew ?_ | refine blk_alloc ?_ _)); refine blk_put (cs := #[.int .i64 ((rd_T25 l0 x17_2).f0), .int .i64 ((rd_T25 l0 x17_2).f1), .int .i64 0, .int .i64 0, .slice none 0 0, .string (⟨#[]⟩ : ByteArray), .string (⟨#[]⟩ : ByteArray), .float .f64 (0 : Nat)]) ?_ 2 _ rfl; (with_reducible repeat (first | refine blk_drewN ?_ _ | refine blk_drew ?_ | refine blk_alloc ?_ _)); refine blk_put (cs := #[.int .i64 ((rd_T25 l0 x17_2).f0), .int .i64 0, .int .i64 0, .int .i64 0, .slice none 0 0, .string (⟨#[]⟩ : ByteArray), .string (⟨#[]⟩ : ByteArray), .float .f64 (0 : Nat)]) ?_ 1 _ rfl; (with_reducible repeat (first | refine blk_drewN ?_ _ | refine blk_drew ?_ | refine blk_alloc ?_ _)); refine blk_put (cs := #[.int .i64 0, .int .i64 0, .int .i64 0, .int .i64 0, .slice none 0 0, .string (⟨#[]⟩ : ByteArray), .string (⟨#[]⟩ : ByteArray), .float .f64 (0 : Nat)]) ?_ 0 _ rfl; (with_reducible repeat (first | refine blk_drewN ?_ _ | refine blk_drew ?_ | refine blk_alloc ?_ _)); exact BK539.out) hb); have n1_ := Aside0.mk (below_step (by repeat (first | (with_reducible first | exact HB.out | apply below_alloc | apply pw_below_drewN | apply below_drew1 | refine below_set ?_ GE539.out) | exact HB.out)) hb); clear BK539; clear HB; have BK539 := n0_; have HB := n1_; clear n0_ n1_; (try clear hb); (try clear hb2); (try clear hk); (try clear hi)))
     go_roundg k2
     case measure => have := HJ3.out; have := HK2.out; omega
     case rel => exact ⟨(wrap64 (x17_2 + 1)), sqE, H', ⟨by have := HJ3.out; have := HK2.out; omega⟩, ⟨by repeat (first | (with_reducible first | exact HB.out | apply below_alloc | apply pw_below_drewN | apply below_drew1 | refine below_set ?_ GE539.out) | exact HB.out)⟩⟩
end Go.Proofs.YtnoppeocbfapdaaGreatDoor.T
