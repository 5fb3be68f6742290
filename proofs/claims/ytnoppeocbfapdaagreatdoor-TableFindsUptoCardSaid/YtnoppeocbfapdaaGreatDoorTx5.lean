import Derived.Test.YtnoppeocbfapdaaGreatDoorTx0
import Derived.Test.YtnoppeocbfapdaaGreatDoorTx1
import Derived.Test.YtnoppeocbfapdaaGreatDoorTx4
namespace Go.Proofs.YtnoppeocbfapdaaGreatDoor.T
open Go.RowKit Go.Proofs.YtnoppeocbfapdaaGreatDoorW.PrintWords Go.Proofs.YtnoppeocbfapdaaGreatDoorW.PrintLast Go.Proofs.YtnoppeocbfapdaaGreatDoorW.PrintMore
set_option maxHeartbeats 8000000
set_option maxRecDepth 100000
attribute [local go_sem] max2_int min2_int max_two min_two max_three min_three max_four min_four
set_option linter.unusedVariables false
set_option linter.unusedSimpArgs false
def table_speaks.f (a0_0 : Int) (a0_1 : Int) (a0_2 : Int) (a0_3 : Int) (l0_4 : List Int) (a0_5 : ByteArray) (a0_6 : ByteArray) (a0_7 : Nat) (a1 : Int) : Option (Bool) := if a1 < a0_1 then (some false) else (if a1 > a0_2 then (some false) else (if a1 < 0 then (some false) else (if a1 > 1114111 then (some false) else (if a0_0 = 4 then (if a0_3 > 0 then (if (IntKind.u64.wrap (a0_3)) = 0 then (none) else (some ((Int.tmod (IntKind.u64.wrap ((IntKind.u64.wrap (a1)) - (IntKind.u64.wrap (a0_1)))) (IntKind.u64.wrap (a0_3))) == 0))) else (some false)) else (some true)))))
theorem table_speaks.calls (a0_0 : Int) (a0_1 : Int) (a0_2 : Int) (a0_3 : Int) (A0_4 : Option Addr) (c0_4 : Nat) (l0_4 : List Int) (a0_5 : ByteArray) (a0_6 : ByteArray) (a0_7 : Nat) (a1 : Int) (r : Bool) (w : World) (hr0_4 : Kd.C (Kd.int .i32) w A0_4 l0_4.length l0_4) (hc0_4 : l0_4.length ≤ c0_4) (h : table_speaks.f a0_0 a0_1 a0_2 a0_3 l0_4 a0_5 a0_6 a0_7 a1 = some r) :
  Calls Tryz.prog 70 #[.agg #[.int .i64 a0_0, .int .i64 a0_1, .int .i64 a0_2, .int .i64 a0_3, .slice A0_4 l0_4.length c0_4, .string a0_5, .string a0_6, .float .f64 a0_7], .int .i64 a1] w fun e w' => e = .returned (.bool r) ∧ Below w.heap.size w w' := by
 have hu25 := Tryz.underlying25
 have HR0_4 := Aside0.mk hr0_4
 have HC0_4 := Aside0.mk hc0_4
 clear hr0_4 hc0_4
 have HB := Aside0.mk (Below.refl w.heap.size w)
 have H : (if a1 < a0_1 then (some false) else (if a1 > a0_2 then (some false) else (if a1 < 0 then (some false) else (if a1 > 1114111 then (some false) else (if a0_0 = 4 then (if a0_3 > 0 then (if (IntKind.u64.wrap (a0_3)) = 0 then (none) else (some ((Int.tmod (IntKind.u64.wrap ((IntKind.u64.wrap (a1)) - (IntKind.u64.wrap (a0_1)))) (IntKind.u64.wrap (a0_3))) == 0))) else (some false)) else (some true)))))) = some r := h
 clear h
 by_cases c3 : a1 < a0_1
 ·rw [if_pos c3] at H
  have c3b0 := decide_eq_true c3
  clear c3
  obtain rfl := Option.some.inj H
  go_enter Tryz.func70, Tryz.ntmps70
  go_wp2_with (first | ((with_reducible refine gate_dst (N := 2) rfl ?_); refine box_event ?hg (N := 2) ?hd (cs := #[.int .i64 a0_0, .int .i64 a0_1, .int .i64 a0_2, .int .i64 a0_3, .slice A0_4 l0_4.length c0_4, .string a0_5, .string a0_6, .float .f64 a0_7]) (t := 25) ?hr ?_; (case hd => rfl); (case hg => rfl); (case hr => first | (go_simp; done) | (go_simp; rfl)); intro gb191 hg w4 hbox hb; have n0_ := Aside0.mk (below_step sqB hb); have n1_ := Aside0.mk (hbox); have n2_ := Aside0.mk ((by rw [hg]; exact (below_size sqB) : w.heap.size ≤ gb191)); have n3_ := Aside0.mk ((by rw [hg]; exact (below_size sqB) : w.heap.size ≤ gb191)); clear HB; have HB := n0_; have BK191 := n1_; have GW191 := n2_; have GE191 := n3_; clear n0_ n1_ n2_ n3_; clear hb hbox hg; have hcz5_0 : w4.cell? ⟨gb191, 0, none⟩ = some (.int .i64 a0_0) := (blk_cell BK191.out 0).trans rfl; have hcz5_1 : w4.cell? ⟨gb191, 1, none⟩ = some (.int .i64 a0_1) := (blk_cell BK191.out 1).trans rfl; have hcz5_2 : w4.cell? ⟨gb191, 2, none⟩ = some (.int .i64 a0_2) := (blk_cell BK191.out 2).trans rfl; have hcz5_3 : w4.cell? ⟨gb191, 3, none⟩ = some (.int .i64 a0_3) := (blk_cell BK191.out 3).trans rfl; have hcz5_4 : w4.cell? ⟨gb191, 4, none⟩ = some (.slice A0_4 l0_4.length c0_4) := (blk_cell BK191.out 4).trans rfl; have hcz5_5 : w4.cell? ⟨gb191, 5, none⟩ = some (.string a0_5) := (blk_cell BK191.out 5).trans rfl; have hcz5_6 : w4.cell? ⟨gb191, 6, none⟩ = some (.string a0_6) := (blk_cell BK191.out 6).trans rfl; have hcz5_7 : w4.cell? ⟨gb191, 7, none⟩ = some (.float .f64 a0_7) := (blk_cell BK191.out 7).trans rfl; have hfz5_0 := blk_frozen BK191.out 0; have hfz5_1 := blk_frozen BK191.out 1; have hfz5_2 := blk_frozen BK191.out 2; have hfz5_3 := blk_frozen BK191.out 3; have hfz5_4 := blk_frozen BK191.out 4; have hfz5_5 := blk_frozen BK191.out 5; have hfz5_6 := blk_frozen BK191.out 6; have hfz5_7 := blk_frozen BK191.out 7))
  go_ret
  exact ⟨sqE', by repeat (first | (with_reducible first | exact HB.out | apply below_alloc | apply pw_below_drewN | apply below_drew1 | refine below_set ?_ GE191.out) | exact HB.out)⟩
 rw [if_neg c3] at H
 have c3b0 := decide_eq_false c3
 clear c3
 by_cases c6 : a1 > a0_2
 ·rw [if_pos c6] at H
  have c6b0 := decide_eq_true c6
  clear c6
  obtain rfl := Option.some.inj H
  go_enter Tryz.func70, Tryz.ntmps70
  go_wp2_with (first | ((with_reducible refine gate_dst (N := 2) rfl ?_); refine box_event ?hg (N := 2) ?hd (cs := #[.int .i64 a0_0, .int .i64 a0_1, .int .i64 a0_2, .int .i64 a0_3, .slice A0_4 l0_4.length c0_4, .string a0_5, .string a0_6, .float .f64 a0_7]) (t := 25) ?hr ?_; (case hd => rfl); (case hg => rfl); (case hr => first | (go_simp; done) | (go_simp; rfl)); intro gb191 hg w7 hbox hb; have n0_ := Aside0.mk (below_step sqB hb); have n1_ := Aside0.mk (hbox); have n2_ := Aside0.mk ((by rw [hg]; exact (below_size sqB) : w.heap.size ≤ gb191)); have n3_ := Aside0.mk ((by rw [hg]; exact (below_size sqB) : w.heap.size ≤ gb191)); clear HB; have HB := n0_; have BK191 := n1_; have GW191 := n2_; have GE191 := n3_; clear n0_ n1_ n2_ n3_; clear hb hbox hg; have hcz8_0 : w7.cell? ⟨gb191, 0, none⟩ = some (.int .i64 a0_0) := (blk_cell BK191.out 0).trans rfl; have hcz8_1 : w7.cell? ⟨gb191, 1, none⟩ = some (.int .i64 a0_1) := (blk_cell BK191.out 1).trans rfl; have hcz8_2 : w7.cell? ⟨gb191, 2, none⟩ = some (.int .i64 a0_2) := (blk_cell BK191.out 2).trans rfl; have hcz8_3 : w7.cell? ⟨gb191, 3, none⟩ = some (.int .i64 a0_3) := (blk_cell BK191.out 3).trans rfl; have hcz8_4 : w7.cell? ⟨gb191, 4, none⟩ = some (.slice A0_4 l0_4.length c0_4) := (blk_cell BK191.out 4).trans rfl; have hcz8_5 : w7.cell? ⟨gb191, 5, none⟩ = some (.string a0_5) := (blk_cell BK191.out 5).trans rfl; have hcz8_6 : w7.cell? ⟨gb191, 6, none⟩ = some (.string a0_6) := (blk_cell BK191.out 6).trans rfl; have hcz8_7 : w7.cell? ⟨gb191, 7, none⟩ = some (.float .f64 a0_7) := (blk_cell BK191.out 7).trans rfl; have hfz8_0 := blk_frozen BK191.out 0; have hfz8_1 := blk_frozen BK191.out 1; have hfz8_2 := blk_frozen BK191.out 2; have hfz8_3 := blk_frozen BK191.out 3; have hfz8_4 := blk_frozen BK191.out 4; have hfz8_5 := blk_frozen BK191.out 5; have hfz8_6 := blk_frozen BK191.out 6; have hfz8_7 := blk_frozen BK191.out 7))
  go_ret
  exact ⟨sqE', by repeat (first | (with_reducible first | exact HB.out | apply below_alloc | apply pw_below_drewN | apply below_drew1 | refine below_set ?_ GE191.out) | exact HB.out)⟩
 rw [if_neg c6] at H
 have c6b0 := decide_eq_false c6
 clear c6
 by_cases c9 : a1 < 0
 ·rw [if_pos c9] at H
  have c9b0 := decide_eq_true c9
  clear c9
  obtain rfl := Option.some.inj H
  go_enter Tryz.func70, Tryz.ntmps70
  go_wp2_with (first | ((with_reducible refine gate_dst (N := 2) rfl ?_); refine box_event ?hg (N := 2) ?hd (cs := #[.int .i64 a0_0, .int .i64 a0_1, .int .i64 a0_2, .int .i64 a0_3, .slice A0_4 l0_4.length c0_4, .string a0_5, .string a0_6, .float .f64 a0_7]) (t := 25) ?hr ?_; (case hd => rfl); (case hg => rfl); (case hr => first | (go_simp; done) | (go_simp; rfl)); intro gb191 hg w10 hbox hb; have n0_ := Aside0.mk (below_step sqB hb); have n1_ := Aside0.mk (hbox); have n2_ := Aside0.mk ((by rw [hg]; exact (below_size sqB) : w.heap.size ≤ gb191)); have n3_ := Aside0.mk ((by rw [hg]; exact (below_size sqB) : w.heap.size ≤ gb191)); clear HB; have HB := n0_; have BK191 := n1_; have GW191 := n2_; have GE191 := n3_; clear n0_ n1_ n2_ n3_; clear hb hbox hg; have hcz11_0 : w10.cell? ⟨gb191, 0, none⟩ = some (.int .i64 a0_0) := (blk_cell BK191.out 0).trans rfl; have hcz11_1 : w10.cell? ⟨gb191, 1, none⟩ = some (.int .i64 a0_1) := (blk_cell BK191.out 1).trans rfl; have hcz11_2 : w10.cell? ⟨gb191, 2, none⟩ = some (.int .i64 a0_2) := (blk_cell BK191.out 2).trans rfl; have hcz11_3 : w10.cell? ⟨gb191, 3, none⟩ = some (.int .i64 a0_3) := (blk_cell BK191.out 3).trans rfl; have hcz11_4 : w10.cell? ⟨gb191, 4, none⟩ = some (.slice A0_4 l0_4.length c0_4) := (blk_cell BK191.out 4).trans rfl; have hcz11_5 : w10.cell? ⟨gb191, 5, none⟩ = some (.string a0_5) := (blk_cell BK191.out 5).trans rfl; have hcz11_6 : w10.cell? ⟨gb191, 6, none⟩ = some (.string a0_6) := (blk_cell BK191.out 6).trans rfl; have hcz11_7 : w10.cell? ⟨gb191, 7, none⟩ = some (.float .f64 a0_7) := (blk_cell BK191.out 7).trans rfl; have hfz11_0 := blk_frozen BK191.out 0; have hfz11_1 := blk_frozen BK191.out 1; have hfz11_2 := blk_frozen BK191.out 2; have hfz11_3 := blk_frozen BK191.out 3; have hfz11_4 := blk_frozen BK191.out 4; have hfz11_5 := blk_frozen BK191.out 5; have hfz11_6 := blk_frozen BK191.out 6; have hfz11_7 := blk_frozen BK191.out 7))
  go_ret
  exact ⟨sqE', by repeat (first | (with_reducible first | exact HB.out | apply below_alloc | apply pw_below_drewN | apply below_drew1 | refine below_set ?_ GE191.out) | exact HB.out)⟩
 rw [if_neg c9] at H
 have c9b0 := decide_eq_false c9
 clear c9
 by_cases c12 : a1 > 1114111
 ·rw [if_pos c12] at H
  have c12b0 := decide_eq_true c12
  clear c12
  obtain rfl := Option.some.inj H
  go_enter Tryz.func70, Tryz.ntmps70
  go_wp2_with (first | ((with_reducible refine gate_dst (N := 2) rfl ?_); refine box_event ?hg (N := 2) ?hd (cs := #[.int .i64 a0_0, .int .i64 a0_1, .int .i64 a0_2, .int .i64 a0_3, .slice A0_4 l0_4.length c0_4, .string a0_5, .string a0_6, .float .f64 a0_7]) (t := 25) ?hr ?_; (case hd => rfl); (case hg => rfl); (case hr => first | (go_simp; done) | (go_simp; rfl)); intro gb191 hg w13 hbox hb; have n0_ := Aside0.mk (below_step sqB hb); have n1_ := Aside0.mk (hbox); have n2_ := Aside0.mk ((by rw [hg]; exact (below_size sqB) : w.heap.size ≤ gb191)); have n3_ := Aside0.mk ((by rw [hg]; exact (below_size sqB) : w.heap.size ≤ gb191)); clear HB; have HB := n0_; have BK191 := n1_; have GW191 := n2_; have GE191 := n3_; clear n0_ n1_ n2_ n3_; clear hb hbox hg; have hcz14_0 : w13.cell? ⟨gb191, 0, none⟩ = some (.int .i64 a0_0) := (blk_cell BK191.out 0).trans rfl; have hcz14_1 : w13.cell? ⟨gb191, 1, none⟩ = some (.int .i64 a0_1) := (blk_cell BK191.out 1).trans rfl; have hcz14_2 : w13.cell? ⟨gb191, 2, none⟩ = some (.int .i64 a0_2) := (blk_cell BK191.out 2).trans rfl; have hcz14_3 : w13.cell? ⟨gb191, 3, none⟩ = some (.int .i64 a0_3) := (blk_cell BK191.out 3).trans rfl; have hcz14_4 : w13.cell? ⟨gb191, 4, none⟩ = some (.slice A0_4 l0_4.length c0_4) := (blk_cell BK191.out 4).trans rfl; have hcz14_5 : w13.cell? ⟨gb191, 5, none⟩ = some (.string a0_5) := (blk_cell BK191.out 5).trans rfl; have hcz14_6 : w13.cell? ⟨gb191, 6, none⟩ = some (.string a0_6) := (blk_cell BK191.out 6).trans rfl; have hcz14_7 : w13.cell? ⟨gb191, 7, none⟩ = some (.float .f64 a0_7) := (blk_cell BK191.out 7).trans rfl; have hfz14_0 := blk_frozen BK191.out 0; have hfz14_1 := blk_frozen BK191.out 1; have hfz14_2 := blk_frozen BK191.out 2; have hfz14_3 := blk_frozen BK191.out 3; have hfz14_4 := blk_frozen BK191.out 4; have hfz14_5 := blk_frozen BK191.out 5; have hfz14_6 := blk_frozen BK191.out 6; have hfz14_7 := blk_frozen BK191.out 7))
  go_ret
  exact ⟨sqE', by repeat (first | (with_reducible first | exact HB.out | apply below_alloc | apply pw_below_drewN | apply below_drew1 | refine below_set ?_ GE191.out) | exact HB.out)⟩
 rw [if_neg c12] at H
 have c12b0 := decide_eq_false c12
 clear c12
 by_cases c15 : a0_0 = 4
 case neg =>
  rw [if_neg c15] at H
  have c15b0 := beq_eq_false_iff_ne.mpr c15
  have c15b1 := bne_iff_ne.mpr c15
  obtain rfl := Option.some.inj H
  go_enter Tryz.func70, Tryz.ntmps70
  go_wp2_with (first | ((with_reducible refine gate_dst (N := 2) rfl ?_); refine box_event ?hg (N := 2) ?hd (cs := #[.int .i64 a0_0, .int .i64 a0_1, .int .i64 a0_2, .int .i64 a0_3, .slice A0_4 l0_4.length c0_4, .string a0_5, .string a0_6, .float .f64 a0_7]) (t := 25) ?hr ?_; (case hd => rfl); (case hg => rfl); (case hr => first | (go_simp; done) | (go_simp; rfl)); intro gb191 hg w22 hbox hb; have n0_ := Aside0.mk (below_step sqB hb); have n1_ := Aside0.mk (hbox); have n2_ := Aside0.mk ((by rw [hg]; exact (below_size sqB) : w.heap.size ≤ gb191)); have n3_ := Aside0.mk ((by rw [hg]; exact (below_size sqB) : w.heap.size ≤ gb191)); clear HB; have HB := n0_; have BK191 := n1_; have GW191 := n2_; have GE191 := n3_; clear n0_ n1_ n2_ n3_; clear hb hbox hg; have hcz23_0 : w22.cell? ⟨gb191, 0, none⟩ = some (.int .i64 a0_0) := (blk_cell BK191.out 0).trans rfl; have hcz23_1 : w22.cell? ⟨gb191, 1, none⟩ = some (.int .i64 a0_1) := (blk_cell BK191.out 1).trans rfl; have hcz23_2 : w22.cell? ⟨gb191, 2, none⟩ = some (.int .i64 a0_2) := (blk_cell BK191.out 2).trans rfl; have hcz23_3 : w22.cell? ⟨gb191, 3, none⟩ = some (.int .i64 a0_3) := (blk_cell BK191.out 3).trans rfl; have hcz23_4 : w22.cell? ⟨gb191, 4, none⟩ = some (.slice A0_4 l0_4.length c0_4) := (blk_cell BK191.out 4).trans rfl; have hcz23_5 : w22.cell? ⟨gb191, 5, none⟩ = some (.string a0_5) := (blk_cell BK191.out 5).trans rfl; have hcz23_6 : w22.cell? ⟨gb191, 6, none⟩ = some (.string a0_6) := (blk_cell BK191.out 6).trans rfl; have hcz23_7 : w22.cell? ⟨gb191, 7, none⟩ = some (.float .f64 a0_7) := (blk_cell BK191.out 7).trans rfl; have hfz23_0 := blk_frozen BK191.out 0; have hfz23_1 := blk_frozen BK191.out 1; have hfz23_2 := blk_frozen BK191.out 2; have hfz23_3 := blk_frozen BK191.out 3; have hfz23_4 := blk_frozen BK191.out 4; have hfz23_5 := blk_frozen BK191.out 5; have hfz23_6 := blk_frozen BK191.out 6; have hfz23_7 := blk_frozen BK191.out 7))
  go_ret
  exact ⟨sqE', by repeat (first | (with_reducible first | exact HB.out | apply below_alloc | apply pw_below_drewN | apply below_drew1 | refine below_set ?_ GE191.out) | exact HB.out)⟩
 rw [if_pos c15] at H
 have c15b0 := beq_iff_eq.mpr c15
 have c15b1 := bne_eq_false_iff_eq.mpr c15
 clear c15
 by_cases c16 : a0_3 > 0
 case neg =>
  rw [if_neg c16] at H
  have c16b0 := decide_eq_false c16
  clear c16
  obtain rfl := Option.some.inj H
  go_enter Tryz.func70, Tryz.ntmps70
  go_wp2_with (first | ((with_reducible refine gate_dst (N := 2) rfl ?_); refine box_event ?hg (N := 2) ?hd (cs := #[.int .i64 a0_0, .int .i64 a0_1, .int .i64 a0_2, .int .i64 a0_3, .slice A0_4 l0_4.length c0_4, .string a0_5, .string a0_6, .float .f64 a0_7]) (t := 25) ?hr ?_; (case hd => rfl); (case hg => rfl); (case hr => first | (go_simp; done) | (go_simp; rfl)); intro gb191 hg w20 hbox hb; have n0_ := Aside0.mk (below_step sqB hb); have n1_ := Aside0.mk (hbox); have n2_ := Aside0.mk ((by rw [hg]; exact (below_size sqB) : w.heap.size ≤ gb191)); have n3_ := Aside0.mk ((by rw [hg]; exact (below_size sqB) : w.heap.size ≤ gb191)); clear HB; have HB := n0_; have BK191 := n1_; have GW191 := n2_; have GE191 := n3_; clear n0_ n1_ n2_ n3_; clear hb hbox hg; have hcz21_0 : w20.cell? ⟨gb191, 0, none⟩ = some (.int .i64 a0_0) := (blk_cell BK191.out 0).trans rfl; have hcz21_1 : w20.cell? ⟨gb191, 1, none⟩ = some (.int .i64 a0_1) := (blk_cell BK191.out 1).trans rfl; have hcz21_2 : w20.cell? ⟨gb191, 2, none⟩ = some (.int .i64 a0_2) := (blk_cell BK191.out 2).trans rfl; have hcz21_3 : w20.cell? ⟨gb191, 3, none⟩ = some (.int .i64 a0_3) := (blk_cell BK191.out 3).trans rfl; have hcz21_4 : w20.cell? ⟨gb191, 4, none⟩ = some (.slice A0_4 l0_4.length c0_4) := (blk_cell BK191.out 4).trans rfl; have hcz21_5 : w20.cell? ⟨gb191, 5, none⟩ = some (.string a0_5) := (blk_cell BK191.out 5).trans rfl; have hcz21_6 : w20.cell? ⟨gb191, 6, none⟩ = some (.string a0_6) := (blk_cell BK191.out 6).trans rfl; have hcz21_7 : w20.cell? ⟨gb191, 7, none⟩ = some (.float .f64 a0_7) := (blk_cell BK191.out 7).trans rfl; have hfz21_0 := blk_frozen BK191.out 0; have hfz21_1 := blk_frozen BK191.out 1; have hfz21_2 := blk_frozen BK191.out 2; have hfz21_3 := blk_frozen BK191.out 3; have hfz21_4 := blk_frozen BK191.out 4; have hfz21_5 := blk_frozen BK191.out 5; have hfz21_6 := blk_frozen BK191.out 6; have hfz21_7 := blk_frozen BK191.out 7))
  go_ret
  exact ⟨sqE', by repeat (first | (with_reducible first | exact HB.out | apply below_alloc | apply pw_below_drewN | apply below_drew1 | refine below_set ?_ GE191.out) | exact HB.out)⟩
 rw [if_pos c16] at H
 have c16b0 := decide_eq_true c16
 clear c16
 by_cases c17 : (IntKind.u64.wrap (a0_3)) = 0
 ·rw [if_pos c17] at H
  exact absurd H (by simp)
 rw [if_neg c17] at H
 have c17b0 := beq_eq_false_iff_ne.mpr c17
 have c17b1 := bne_iff_ne.mpr c17
 obtain rfl := Option.some.inj H
 go_enter Tryz.func70, Tryz.ntmps70
 go_wp2_with (first | ((with_reducible refine gate_dst (N := 2) rfl ?_); refine box_event ?hg (N := 2) ?hd (cs := #[.int .i64 a0_0, .int .i64 a0_1, .int .i64 a0_2, .int .i64 a0_3, .slice A0_4 l0_4.length c0_4, .string a0_5, .string a0_6, .float .f64 a0_7]) (t := 25) ?hr ?_; (case hd => rfl); (case hg => rfl); (case hr => first | (go_simp; done) | (go_simp; rfl)); intro gb191 hg w18 hbox hb; have n0_ := Aside0.mk (below_step sqB hb); have n1_ := Aside0.mk (hbox); have n2_ := Aside0.mk ((by rw [hg]; exact (below_size sqB) : w.heap.size ≤ gb191)); have n3_ := Aside0.mk ((by rw [hg]; exact (below_size sqB) : w.heap.size ≤ gb191)); clear HB; have HB := n0_; have BK191 := n1_; have GW191 := n2_; have GE191 := n3_; clear n0_ n1_ n2_ n3_; clear hb hbox hg; have hcz19_0 : w18.cell? ⟨gb191, 0, none⟩ = some (.int .i64 a0_0) := (blk_cell BK191.out 0).trans rfl; have hcz19_1 : w18.cell? ⟨gb191, 1, none⟩ = some (.int .i64 a0_1) := (blk_cell BK191.out 1).trans rfl; have hcz19_2 : w18.cell? ⟨gb191, 2, none⟩ = some (.int .i64 a0_2) := (blk_cell BK191.out 2).trans rfl; have hcz19_3 : w18.cell? ⟨gb191, 3, none⟩ = some (.int .i64 a0_3) := (blk_cell BK191.out 3).trans rfl; have hcz19_4 : w18.cell? ⟨gb191, 4, none⟩ = some (.slice A0_4 l0_4.length c0_4) := (blk_cell BK191.out 4).trans rfl; have hcz19_5 : w18.cell? ⟨gb191, 5, none⟩ = some (.string a0_5) := (blk_cell BK191.out 5).trans rfl; have hcz19_6 : w18.cell? ⟨gb191, 6, none⟩ = some (.string a0_6) := (blk_cell BK191.out 6).trans rfl; have hcz19_7 : w18.cell? ⟨gb191, 7, none⟩ = some (.float .f64 a0_7) := (blk_cell BK191.out 7).trans rfl; have hfz19_0 := blk_frozen BK191.out 0; have hfz19_1 := blk_frozen BK191.out 1; have hfz19_2 := blk_frozen BK191.out 2; have hfz19_3 := blk_frozen BK191.out 3; have hfz19_4 := blk_frozen BK191.out 4; have hfz19_5 := blk_frozen BK191.out 5; have hfz19_6 := blk_frozen BK191.out 6; have hfz19_7 := blk_frozen BK191.out 7))
 go_ret
 exact ⟨sqE', by repeat (first | (with_reducible first | exact HB.out | apply below_alloc | apply pw_below_drewN | apply below_drew1 | refine below_set ?_ GE191.out) | exact HB.out)⟩
-- NOT PRINTED: function 58 (table_meet)
-- NOT PRINTED: function 21 (table_Check)
end Go.Proofs.YtnoppeocbfapdaaGreatDoor.T
