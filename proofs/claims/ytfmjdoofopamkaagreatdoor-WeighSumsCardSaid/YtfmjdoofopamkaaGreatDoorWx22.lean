import Derived.Test.YtfmjdoofopamkaaGreatDoorWx0
import Derived.Test.YtfmjdoofopamkaaGreatDoorWx14
import Derived.Test.YtfmjdoofopamkaaGreatDoorWx19
import Derived.Test.YtfmjdoofopamkaaGreatDoorWx20
import Derived.Test.YtfmjdoofopamkaaGreatDoorWx21
namespace Go.Proofs.YtfmjdoofopamkaaGreatDoor.W
open Go.RowKit Go.Proofs.YtfmjdoofopamkaaGreatDoorW.PrintWords Go.Proofs.YtfmjdoofopamkaaGreatDoorW.PrintLast Go.Proofs.YtfmjdoofopamkaaGreatDoorW.PrintMore
set_option maxHeartbeats 8000000
set_option maxRecDepth 100000
attribute [local go_sem] max2_int min2_int max_two min_two max_three min_three max_four min_four
set_option linter.unusedVariables false
set_option linter.unusedSimpArgs false
def endonymref2_signed.f (k : Nat) (a0 : Int) : Option (Bool × List Int) := (endonymref2_Parts.f (Go.bits .andNot .u64 a0 9223372036854775808)).bind fun bt670 => ((endonymref2_Of.f k bt670.1).bind fun t672 => ((endonymref2_Left.f k t672 (wrap64 (bt670.2 + 1074))).bind fun t675 => (some (decide (a0 ≥ 9223372036854775808), t675))))
theorem endonymref2_signed.mono : ∀ a0 k, LeO (endonymref2_signed.f k a0) (endonymref2_signed.f (k + 1) a0) := by
 intro a0 k
 unfold endonymref2_signed.f
 repeat' first | (with_reducible first | apply endonymref2_Left.mono | apply endonymref2_Of.mono | apply LeO.refl | apply LeO.none | refine LeO.ite ?_ ?_ | refine LeO.bind ?_ (fun _ => ?_)) | apply LeO.none | refine LeO.ite ?_ ?_ | refine LeO.bind ?_ (fun _ => ?_)
theorem endonymref2_signed.calls (k : Nat) (a0 : Int) (r1 : Bool) (r2 : List Int) (w : World) (h : endonymref2_signed.f k a0 = some (r1, r2)) :
  Calls Tryz.prog 85 #[.int .u64 a0] w fun e w' => ∃ v1_ : Value, e = .returned (.agg #[.bool r1, v1_]) ∧ Kd.R (Kd.int .u32) 83 w' w.heap.size (fun _ => True) v1_ r2 ∧ Below w.heap.size w w' := by
 have hu73 := Tryz.underlying73
 have HB := Aside0.mk (Below.refl w.heap.size w)
 have H : ((endonymref2_Parts.f (Go.bits .andNot .u64 a0 9223372036854775808)).bind fun bt670 => ((endonymref2_Of.f k bt670.1).bind fun t672 => ((endonymref2_Left.f k t672 (wrap64 (bt670.2 + 1074))).bind fun t675 => (some (decide (a0 ≥ 9223372036854775808), t675))))) = some (r1, r2) := h
 clear h
 obtain ⟨⟨t670, t671⟩, A2, H⟩ := sqO H
 try dsimp only at H
 obtain ⟨t672, A3, H⟩ := sqO H
 try dsimp only at H
 obtain ⟨t675, A4, H⟩ := sqO H
 try dsimp only at H
 simp only [Option.some.injEq, Prod.mk.injEq] at H
 obtain ⟨rfl, rfl⟩ := H
 go_enter Tryz.func85, Tryz.ntmps85
 go_wp2_with (first | ((with_reducible refine gate_dst (N := 2) rfl ?_); refine box_event ?hg (N := 2) ?hd (cs := #[.bool false, .slice none 0 0]) (t := 73) ?hr ?_; (case hd => rfl); (case hg => rfl); (case hr => first | (go_simp; done) | (go_simp; rfl)); intro gb669 hg w5 hbox hb; have n0_ := Aside0.mk (below_step sqB hb); have n1_ := Aside0.mk (hbox); have n2_ := Aside0.mk ((by rw [hg]; exact (below_size sqB) : w.heap.size ≤ gb669)); have n3_ := Aside0.mk ((by rw [hg]; exact (below_size sqB) : w.heap.size ≤ gb669)); clear HB; have HB := n0_; have BK669 := n1_; have GW669 := n2_; have GE669 := n3_; clear n0_ n1_ n2_ n3_; clear hb hbox hg) | ((with_reducible refine gate_callee (f := 73) rfl ?_); refine goesL_ (some 8) rfl rfl Tryz.func73 (by kernel_rfl) rfl #[.int .u64 (Go.bits .andNot .u64 a0 9223372036854775808)] rfl sqA ?_; (with_reducible refine (endonymref2_Parts.calls (Go.bits .andNot .u64 a0 9223372036854775808) t670 t671 _ A2.out).mono ?_); rintro e w' ⟨rfl, ⟨nd, rfl⟩⟩; refine ⟨_, rfl, ?_⟩; (try (rw [drewN_self w5]; generalize hq_ : World.drewN w5 _ = w5; have n0_ : Aside0 (w5.heap[gb669]? = some (.cells #[.bool false, .slice none 0 0] 73 (0, 0))) := ⟨by rw [← hq_]; exact (by (with_reducible repeat (first | refine blk_drewN ?_ _ | refine blk_drew ?_ | refine blk_alloc ?_ _)); exact BK669.out)⟩; have n1_ : Aside0 (Below w.heap.size w w5) := ⟨by rw [← hq_]; exact (by repeat (first | (with_reducible first | exact HB.out | apply below_alloc | apply pw_below_drewN | apply below_drew1 | refine below_set ?_ GE669.out) | exact HB.out))⟩; clear BK669 HB hq_; have BK669 := n0_; have HB := n1_; clear n0_ n1_))) | ((with_reducible refine gate_callee (f := 65) rfl ?_); refine goesL_ (some 14) rfl rfl Tryz.func65 (by kernel_rfl) rfl #[.int .u64 t670] rfl sqA ?_; (with_reducible refine (endonymref2_Of.calls k t670 t672 _ A3.out).mono ?_); rintro e w6 ⟨v673, rfl, ho0, hb⟩; refine ⟨_, rfl, ?_⟩; have n0_ := Aside0.mk (Kd.R_lower ho0 (below_size (by repeat (first | (with_reducible first | exact HB.out | apply below_alloc | apply pw_below_drewN | apply below_drew1 | refine below_set ?_ GE669.out) | exact HB.out)))); have n1_ := Aside0.mk (blk_below (g := gb669) (o := .cells #[.bool false, .slice none 0 0] 73 (0, 0)) (by (with_reducible repeat (first | refine blk_drewN ?_ _ | refine blk_drew ?_ | refine blk_alloc ?_ _)); exact BK669.out) hb); have n2_ := Aside0.mk (below_step (by repeat (first | (with_reducible first | exact HB.out | apply below_alloc | apply pw_below_drewN | apply below_drew1 | refine below_set ?_ GE669.out) | exact HB.out)) hb); clear BK669; clear HB; have HO674 := n0_; have BK669 := n1_; have HB := n2_; clear n0_ n1_ n2_; (try clear hb); (try clear hb2); (try clear hk); (try clear hi); (try clear ho0); obtain ⟨Ao7, co7, eo7⟩ := Kd.R_slice HO674.out; subst eo7) | ((with_reducible refine gate_callee (f := 74) rfl ?_); refine goesL_ (some 17) rfl rfl Tryz.func74 (by kernel_rfl) rfl #[.slice Ao7 t672.length co7, .int .i64 (wrap64 (t671 + 1074))] rfl sqA ?_; (with_reducible refine (endonymref2_Left.calls k _ _ t672 (wrap64 (t671 + 1074)) t675 _ ?side1 ?side2 A4.out).mono ?_); (case side1 => repeat (first | exact (Kd.R_reads' HO674.out).2.2 | (with_reducible refine Kd.C_alloc ?_ _) | (with_reducible refine Kd.C_drewN ?_ _) | (with_reducible refine Kd.C_drew ?_))); (case side2 => exact (Kd.R_reads' HO674.out).2.1); rintro e w8 ⟨v676, rfl, ho0, hb⟩; refine ⟨_, rfl, ?_⟩; have n0_ := Aside0.mk (Kd.R_elder' (sqR HO674.out) (Kd.R_base ho0) hb); have n1_ := Aside0.mk (Kd.R_lower (Kd.R_new' ho0 (Kd.R_lt (sqR HO674.out))) (below_size (by repeat (first | (with_reducible first | exact HB.out | apply below_alloc | apply pw_below_drewN | apply below_drew1 | refine below_set ?_ GE669.out) | exact HB.out)))); have n2_ := Aside0.mk (blk_below (g := gb669) (o := .cells #[.bool false, .slice none 0 0] 73 (0, 0)) (by (with_reducible repeat (first | refine blk_drewN ?_ _ | refine blk_drew ?_ | refine blk_alloc ?_ _)); exact BK669.out) hb); have n3_ := Aside0.mk (below_step (by repeat (first | (with_reducible first | exact HB.out | apply below_alloc | apply pw_below_drewN | apply below_drew1 | refine below_set ?_ GE669.out) | exact HB.out)) hb); clear HO674; clear BK669; clear HB; have HO674 := n0_; have HO677 := n1_; have BK669 := n2_; have HB := n3_; clear n0_ n1_ n2_ n3_; (try clear hb); (try clear hb2); (try clear hk); (try clear hi); (try clear ho0); obtain ⟨Ao9, co9, eo9⟩ := Kd.R_slice HO677.out; subst eo9; have hcz10_0 : w8.cell? ⟨gb669, 0, none⟩ = some (.bool false) := (blk_cell BK669.out 0).trans rfl; have hcz10_1 : w8.cell? ⟨gb669, 1, none⟩ = some (.slice none 0 0) := (blk_cell BK669.out 1).trans rfl; have hfz10_0 := blk_frozen BK669.out 0; have hfz10_1 := blk_frozen BK669.out 1))
 refine bodyPost_ret (results_cell_row rfl _ _ gb669 73 #[.bool (decide (a0 ≥ 9223372036854775808)), .slice Ao9 t675.length co9] (0, 0) _ rfl (by (with_reducible repeat (first | refine blk_drewN ?_ _ | refine blk_drew ?_ | refine blk_alloc ?_ _)); refine blk_put (cs := #[.bool (decide (a0 ≥ 9223372036854775808)), .slice none 0 0]) ?_ 1 _ rfl; (with_reducible repeat (first | refine blk_drewN ?_ _ | refine blk_drew ?_ | refine blk_alloc ?_ _)); refine blk_put (cs := #[.bool false, .slice none 0 0]) ?_ 0 _ rfl; (with_reducible repeat (first | refine blk_drewN ?_ _ | refine blk_drew ?_ | refine blk_alloc ?_ _)); exact BK669.out) Tryz.underlying73 rfl (by kernel_rfl)) rfl ?_
 exact ⟨_, sqE', by (with_reducible repeat (first | apply Kd.R_alloc | apply Kd.R_drewN | apply Kd.R_drew)); exact Kd.R_mono (Kd.R_far (p := ⟨gb669, 1, none⟩) (Kd.R_far (p := ⟨gb669, 0, none⟩) (Kd.R_types HO677.out BK669.out (by decide)) (fun _ hk => hk.2) (.bool (decide (a0 ≥ 9223372036854775808)))) (fun _ hk => hk.2) (.slice Ao9 t675.length co9)) (fun _ hk => trivial), by repeat (first | (with_reducible first | exact HB.out | apply below_alloc | apply pw_below_drewN | apply below_drew1 | refine below_set ?_ GE669.out) | exact HB.out)⟩
def endonymref2_Total.l0 : Nat → List Int → Int → Bool → List Int → Option (Bool × List Int)
 | 0, _, _, _, _ => none
 | k + 1, x0, x4, x680000, x680001 => if x4 < (x0.length : Int) then (if 0 ≤ x4 then ((endonymref2_signed.f k (rd x0 x4)).bind fun bt681 => ((endonymref2_plus.f k x680000 x680001 bt681.1 bt681.2).bind fun bt685 => (endonymref2_Total.l0 k x0 (wrap64 (x4 + 1)) bt685.1 bt685.2))) else (none)) else (some (x680000, x680001))
def endonymref2_Total.f (k : Nat) (l0 : List Int) : Option (Bool × List Int) := endonymref2_Total.l0 k l0 0 false ([] : List Int)
theorem endonymref2_Total.mono_l : ∀ k, (∀ y0 y1 y2 y3, LeO (endonymref2_Total.l0 k y0 y1 y2 y3) (endonymref2_Total.l0 (k + 1) y0 y1 y2 y3))
 | 0 => fun _ _ _ _ r h => by simp [endonymref2_Total.l0] at h
 | k + 1 => by
  have ih0 := endonymref2_Total.mono_l k
  intro y0 y1 y2 y3
  unfold endonymref2_Total.l0
  repeat' first | (with_reducible first | apply ih0 | apply endonymref2_plus.mono | apply endonymref2_signed.mono | apply LeO.refl | apply LeO.none | refine LeO.ite ?_ ?_ | refine LeO.bind ?_ (fun _ => ?_)) | apply LeO.none | refine LeO.ite ?_ ?_ | refine LeO.bind ?_ (fun _ => ?_)
theorem endonymref2_Total.mono : ∀ a0 k, LeO (endonymref2_Total.f k a0) (endonymref2_Total.f (k + 1) a0) := by
 intro a0 k
 have ih0 := endonymref2_Total.mono_l k
 unfold endonymref2_Total.f
 repeat' first | (with_reducible first | apply ih0 | apply endonymref2_plus.mono | apply endonymref2_signed.mono | apply LeO.refl | apply LeO.none | refine LeO.ite ?_ ?_ | refine LeO.bind ?_ (fun _ => ?_)) | apply LeO.none | refine LeO.ite ?_ ?_ | refine LeO.bind ?_ (fun _ => ?_)
def endonymref2_Total.T5 : Bool × List (List Nat × List Nat) := (true, [([], []), ([], []), ([], []), ([1, 2], [1, 2]), ([3], [3]), ([4], [4]), ([0, 5, 5], [0, 5]), ([6, 6, 0, 1, 2, 3, 4, 5, 6], [6])])
def endonymref2_Total.B5 : List Nat := [0, 0, 0, 6, 14, 30, 63, 127]
theorem endonymref2_Total.tab5 : rtab .any (opsOf Tryz.f49 5) = endonymref2_Total.T5 := by kernel_rfl
theorem endonymref2_Total.bits5 : waitsOk endonymref2_Total.T5.2 endonymref2_Total.B5 = true := by kernel_rfl
theorem endonymref2_Total.calls (k : Nat) (A0 : Option Addr) (c0 : Nat) (l0 : List Int) (r1 : Bool) (r2 : List Int) (w : World) (hr0 : Kd.C (Kd.int .u64) w A0 l0.length l0) (hc0 : l0.length ≤ c0) (h : endonymref2_Total.f k l0 = some (r1, r2)) :
  Calls Tryz.prog 49 #[.slice A0 l0.length c0] w fun e w' => ∃ v1_ : Value, e = .returned (.agg #[.bool r1, v1_]) ∧ Kd.R (Kd.int .u32) 83 w' w.heap.size (fun _ => True) v1_ r2 ∧ Below w.heap.size w w' := by
 have hu73 := Tryz.underlying73
 have HR0 := Aside0.mk hr0
 have HC0 := Aside0.mk hc0
 clear hr0 hc0
 have HB := Aside0.mk (Below.refl w.heap.size w)
 have H : (endonymref2_Total.l0 k l0 0 false ([] : List Int)) = some (r1, r2) := h
 clear h
 have H' := Aside0.mk H
 clear H
 go_enter Tryz.func49, Tryz.ntmps49
 go_wp2_with (first | ((with_reducible refine gate_dst (N := 2) rfl ?_); refine box_event ?hg (N := 2) ?hd (cs := #[.bool false, .slice none 0 0]) (t := 73) ?hr ?_; (case hd => rfl); (case hg => rfl); (case hr => first | (go_simp; done) | (go_simp; rfl)); intro gb678 hg w2 hbox hb; have n0_ := Aside0.mk (below_step sqB hb); have n1_ := Aside0.mk (hbox); have n2_ := Aside0.mk ((by rw [hg]; exact (below_size sqB) : w.heap.size ≤ gb678)); have n3_ := Aside0.mk ((by rw [hg]; exact (below_size sqB) : w.heap.size ≤ gb678)); clear HB; have HB := n0_; have BK678 := n1_; have GW678 := n2_; have GE678 := n3_; clear n0_ n1_ n2_ n3_; clear hb hbox hg) | ((with_reducible refine gate_dst (N := 3) rfl ?_); refine box_event ?hg (N := 3) ?hd (cs := #[.bool false, .slice none 0 0]) (t := 73) ?hr ?_; (case hd => rfl); (case hg => rfl); (case hr => first | (go_simp; done) | (go_simp; rfl)); intro gb679 hg w3 hbox hb; have n0_ := Aside0.mk (blk_below (g := gb678) (o := .cells #[.bool false, .slice none 0 0] 73 (0, 0)) (by (with_reducible repeat (first | refine blk_drewN ?_ _ | refine blk_drew ?_ | refine blk_alloc ?_ _)); exact BK678.out) hb); have n1_ := Aside0.mk (below_step (by repeat (first | (with_reducible first | exact HB.out | apply below_alloc | apply pw_below_drewN | apply below_drew1 | refine below_set ?_ GE678.out) | exact HB.out)) hb); have n2_ := Aside0.mk (hbox); have n3_ := Aside0.mk ((by rw [hg]; exact (below_size (by repeat (first | (with_reducible first | exact HB.out | apply below_alloc | apply pw_below_drewN | apply below_drew1 | refine below_set ?_ GE678.out) | exact HB.out))) : w.heap.size ≤ gb679)); have n4_ := Aside0.mk ((by rw [hg]; exact (below_size (by repeat (first | (with_reducible first | exact HB.out | apply below_alloc | apply pw_below_drewN | apply below_drew1 | refine below_set ?_ GE678.out) | exact HB.out))) : w.heap.size ≤ gb679)); have n5_ := Aside0.mk ((by rw [hg]; exact Nat.ne_of_lt (blk_lt (g := gb678) (o := .cells #[.bool false, .slice none 0 0] 73 (0, 0)) (by (with_reducible repeat (first | refine blk_drewN ?_ _ | refine blk_drew ?_ | refine blk_alloc ?_ _)); exact BK678.out)) : gb678 ≠ gb679)); have n6_ := Aside0.mk ((by rw [hg]; exact Nat.ne_of_gt (blk_lt (g := gb678) (o := .cells #[.bool false, .slice none 0 0] 73 (0, 0)) (by (with_reducible repeat (first | refine blk_drewN ?_ _ | refine blk_drew ?_ | refine blk_alloc ?_ _)); exact BK678.out)) : gb679 ≠ gb678)); clear BK678; clear HB; have BK678 := n0_; have HB := n1_; have BK679 := n2_; have GW679 := n3_; have GE679 := n4_; have NB678_679 := n5_; have NB679_678 := n6_; clear n0_ n1_ n2_ n3_ n4_ n5_ n6_; clear hb hbox hg))
 try simp only [Act.put, List.setIfInBounds_toArray, List.set_cons_zero, List.set_cons_succ]
 go_loopg [4] k (fun kq v4 w' => ∃ (x4_1 : Int) (x680000_1 : Bool) (x680001_1 : List Int) (u680001 : Value), v4 = .int .i64 x4_1 ∧ Aside0 (endonymref2_Total.l0 kq l0 x4_1 x680000_1 x680001_1 = some (r1, r2)) ∧ Aside0 (kq ≤ k) ∧ Aside0 (Kd.R (Kd.int .u32) 83 w' w.heap.size (fun _ => True) u680001 x680001_1) ∧ Aside0 (w'.heap[gb678]? = some (.cells #[.bool false, (.slice none 0 0)] 73 (0, 0))) ∧ Aside0 (w'.heap[gb679]? = some (.cells #[.bool x680000_1, u680001] 73 (0, 0))) ∧ Aside0 (Below w.heap.size w w'))
 case atStart => exact ⟨(0), (false), (([] : List Int)), (.slice none 0 0), sqE, H', ⟨Nat.le_refl _⟩, ⟨by first | exact Kd.R_nil _ _ _ _ _ | exact Kd.N_nil _ _ _ _ _ | exact Kd.V_nil _ _ _ _ _ | exact Kd.Q_nil _ _ _ _ _ | exact Kd.S_nil _ _ _ _ _⟩, ⟨by (with_reducible repeat (first | refine blk_drewN ?_ _ | refine blk_drew ?_ | refine blk_alloc ?_ _)); exact BK678.out⟩, ⟨by (with_reducible repeat (first | refine blk_drewN ?_ _ | refine blk_drew ?_ | refine blk_alloc ?_ _)); exact BK679.out⟩, ⟨by repeat (first | (with_reducible first | exact HB.out | apply below_alloc | apply pw_below_drewN | apply below_drew1 | refine below_set ?_ GE678.out | refine below_set ?_ GE679.out) | exact HB.out)⟩⟩
 case round =>
  clear H'
  try clear p2
  obtain ⟨x4_1, x680000_1, x680001_1, u680001, rfl, HA, HK1, HO_680001, BK678, BK679, HB⟩ := hrel
  cases gk with
  | zero => exact absurd HA.out (by simp [endonymref2_Total.l0])
  | succ k1 =>
   have H := HA.out
   clear HA
   simp only [endonymref2_Total.l0] at H
   by_cases c4 : x4_1 < (l0.length : Int)
   case neg =>
    rw [if_neg c4] at H
    have c4b0 := decide_eq_false c4
    clear c4
    simp only [Option.some.injEq, Prod.mk.injEq] at H
    obtain ⟨rfl, rfl⟩ := H
    have hnb16 := NB679_678.out
    have hnc16 := NB678_679.out
    have hcz17_0 : wr.cell? ⟨gb679, 0, none⟩ = some (.bool x680000_1) := (blk_cell BK679.out 0).trans rfl
    have hcz17_1 : wr.cell? ⟨gb679, 1, none⟩ = some (u680001) := (blk_cell BK679.out 1).trans rfl
    have hfz17_0 := blk_frozen BK679.out 0
    have hfz17_1 := blk_frozen BK679.out 1
    have hcz18_0 : wr.cell? ⟨gb678, 0, none⟩ = some (.bool false) := (blk_cell BK678.out 0).trans rfl
    have hcz18_1 : wr.cell? ⟨gb678, 1, none⟩ = some (.slice none 0 0) := (blk_cell BK678.out 1).trans rfl
    have hfz18_0 := blk_frozen BK678.out 0
    have hfz18_1 := blk_frozen BK678.out 1
    obtain ⟨Ao19, co19, eo19⟩ := Kd.R_slice HO_680001.out
    subst eo19
    go_wp2
    refine bodyPost_ret (results_cell_row rfl _ _ gb678 73 #[.bool x680000_1, .slice Ao19 x680001_1.length co19] (0, 0) _ rfl (by (with_reducible repeat (first | refine blk_drewN ?_ _ | refine blk_drew ?_ | refine blk_alloc ?_ _)); refine blk_put (cs := #[.bool x680000_1, .slice none 0 0]) ?_ 1 _ rfl; (with_reducible repeat (first | refine blk_drewN ?_ _ | refine blk_drew ?_ | refine blk_alloc ?_ _)); refine blk_put (cs := #[.bool false, .slice none 0 0]) ?_ 0 _ rfl; (with_reducible repeat (first | refine blk_drewN ?_ _ | refine blk_drew ?_ | refine blk_alloc ?_ _)); exact BK678.out) Tryz.underlying73 rfl (by kernel_rfl)) rfl ?_
    exact ⟨_, sqE', by (with_reducible repeat (first | apply Kd.R_alloc | apply Kd.R_drewN | apply Kd.R_drew)); exact Kd.R_mono (Kd.R_far (p := ⟨gb678, 1, none⟩) (Kd.R_far (p := ⟨gb678, 0, none⟩) (Kd.R_types HO_680001.out BK678.out (by decide)) (fun _ hk => hk.2) (.bool x680000_1)) (fun _ hk => hk.2) (.slice Ao19 x680001_1.length co19)) (fun _ hk => trivial), by repeat (first | (with_reducible first | exact HB.out | apply below_alloc | apply pw_below_drewN | apply below_drew1 | refine below_set ?_ GE678.out | refine below_set ?_ GE679.out) | exact HB.out)⟩
   rw [if_pos c4] at H
   have c4b0 := decide_eq_true c4
   clear c4
   by_cases c5 : 0 ≤ x4_1
   case neg => rw [if_neg c5] at H; exact absurd H (by simp)
   rw [if_pos c5] at H
   have c5b0 := decide_eq_true c5
   clear c5
   obtain ⟨⟨t681, t682⟩, A6, H⟩ := sqO H
   try dsimp only at H
   obtain ⟨⟨t685, t686⟩, A7, H⟩ := sqO H
   try dsimp only at H
   have H' := Aside0.mk H
   clear H
   try go_wp2
   have n0_ := Aside0.mk (Kd.R_drew HO_680001.out)
   have n1_ := Aside0.mk (blk_drew BK678.out)
   have n2_ := Aside0.mk (blk_drew BK679.out)
   have n3_ := Aside0.mk (below_drew1 HB.out)
   clear HO_680001
   clear BK678
   clear BK679
   clear HB
   have HO_680001 := n0_
   have BK678 := n1_
   have BK679 := n2_
   have HB := n3_
   clear n0_ n1_ n2_ n3_
   have p680 : 0 ≤ (x4_1 : Int) := sqD
   have q680 : x4_1 < (l0.length : Int) := sqD
   obtain ⟨ad680, e680, hx680_0⟩ := Kd.at_int HR0.out x4_1 p680 q680
   have hw680_0 := hx680_0
   cases e680
   replace hx680_0 := (HB.out.cell (World.block_lt_of_cell? w _ hx680_0)).trans hx680_0
   replace p680 := eq_true p680
   replace q680 := eq_true q680
   refine start_ (n := 8) (S := fun w' => w'.cell? ⟨gb679, 0, none⟩ = some (.bool x680000_1) ∧ w'.cell? ⟨gb679, 1, none⟩ = some (u680001) ∧ w'.cell? (ad680.add (x4_1).toNat) = some (.int .u64 (rd l0 x4_1))) (ds := [7]) #[false, false, false, false, false, false, false, false] (by kernel_rfl) rfl rfl ⟨(blk_cell BK679.out 0).trans rfl, (blk_cell BK679.out 1).trans rfl, ((HB.out.cell (World.block_lt_of_cell? w _ hw680_0)).trans hw680_0)⟩ (fun hHeld => ?_); refine with_tabW endonymref2_Total.tab5 endonymref2_Total.bits5 (fun HT_ HW_ => ?_)
   generalize wr.drew = w8 at HO_680001 BK678 BK679 HB hx680_0 hHeld ⊢
   refine pure_ (i := 1) (N := some 12) (v := ?_) (a' := ?_) #[false, true, false, false, false, false, false, false] rfl rfl (any_of HT_.out (by kernel_rfl)) (fun _ _ _ h => h) (Or.inl ⟨by rfl, ?_⟩) ?_ ?_
   rotate_left
   ·intro w'
    go_simp
    with_reducible rfl
   rotate_left
   ·simp only [Act.put, List.setIfInBounds_toArray, List.set_cons_zero, List.set_cons_succ, i64_w, i32_w]
    rfl
   refine pure_ (i := 2) (N := some 13) (v := ?_) (a' := ?_) #[false, true, true, false, false, false, false, false] rfl rfl (any_of HT_.out (by kernel_rfl)) (fun _ _ _ h => h) (Or.inl ⟨by rfl, ?_⟩) ?_ ?_
   rotate_left
   ·intro w'
    go_simp
    with_reducible rfl
   rotate_left
   ·simp only [Act.put, List.setIfInBounds_toArray, List.set_cons_zero, List.set_cons_succ, i64_w, i32_w]
    rfl
   refine pure_ (i := 3) (N := some 14) (v := ?_) (a' := ?_) #[false, true, true, true, false, false, false, false] rfl rfl (any_of HT_.out (by kernel_rfl)) (fun _ _ _ h => h) (Or.inl ⟨by rfl, ?_⟩) ?_ ?_
   rotate_left
   ·intro w'
    go_simp
    with_reducible rfl
   rotate_left
   ·simp only [Act.put, List.setIfInBounds_toArray, List.set_cons_zero, List.set_cons_succ, i64_w, i32_w]
    rfl
   refine take_ (i := 0) (N := some 11) (v := ?_) (a' := ?_) #[true, true, true, true, false, false, false, false] rfl rfl (take_ofW HT_.out HW_.out (by kernel_rfl)) (fun _ _ _ h => h) (Or.inl ⟨by rfl, ?_⟩) hHeld ?_ ?_
   rotate_left
   ·rintro w' ⟨s0, s1, s2⟩
    go_simp
    with_reducible rfl
   rotate_left
   ·simp only [Act.put, List.setIfInBounds_toArray, List.set_cons_zero, List.set_cons_succ, i64_w, i32_w]
    rfl
   refine take_ (i := 4) (N := some 15) (v := ?_) (a' := ?_) #[true, true, true, true, true, false, false, false] rfl rfl (take_ofW HT_.out HW_.out (by kernel_rfl)) (fun _ _ _ h => h) (Or.inl ⟨by rfl, ?_⟩) hHeld ?_ ?_
   rotate_left
   ·rintro w' ⟨s0, s1, s2⟩
    go_simp
    with_reducible rfl
   rotate_left
   ·simp only [Act.put, List.setIfInBounds_toArray, List.set_cons_zero, List.set_cons_succ, i64_w, i32_w]
    rfl
   refine one_ (i := 5) (N := some 16) #[true, true, true, true, true, true, false, false] rfl rfl (one_of HT_.out (by kernel_rfl)) (by decide) (fun K hK => ?_)
   refine goes_ Tryz.func85 (by kernel_rfl) rfl #[.int .u64 (rd l0 x4_1)] (by rfl) rfl rfl sqA ?_
   with_reducible refine (endonymref2_signed.calls k1 (rd l0 x4_1) t681 t682 _ A6.out).mono ?_
   rintro e w9 ⟨v683, rfl, ho0, hb⟩
   refine ⟨_, rfl, ?_⟩
   have n0_ := Aside0.mk (Kd.R_elder' (sqR HO_680001.out) (Kd.R_base ho0) hb)
   have n1_ := Aside0.mk (Kd.R_lower (Kd.R_new' ho0 (Kd.R_lt (sqR HO_680001.out))) (below_size (by repeat (first | (with_reducible first | exact HB.out | apply below_alloc | apply pw_below_drewN | apply below_drew1 | refine below_set ?_ GE678.out | refine below_set ?_ GE679.out) | exact HB.out))))
   have n2_ := Aside0.mk (blk_below (g := gb678) (o := .cells #[.bool false, .slice none 0 0] 73 (0, 0)) (by (with_reducible repeat (first | refine blk_drewN ?_ _ | refine blk_drew ?_ | refine blk_alloc ?_ _)); exact BK678.out) hb)
   have n3_ := Aside0.mk (blk_below (g := gb679) (o := .cells #[.bool x680000_1, u680001] 73 (0, 0)) (by (with_reducible repeat (first | refine blk_drewN ?_ _ | refine blk_drew ?_ | refine blk_alloc ?_ _)); exact BK679.out) hb)
   have n4_ := Aside0.mk (below_step (by repeat (first | (with_reducible first | exact HB.out | apply below_alloc | apply pw_below_drewN | apply below_drew1 | refine below_set ?_ GE678.out | refine below_set ?_ GE679.out) | exact HB.out)) hb)
   clear HO_680001
   clear BK678
   clear BK679
   clear HB
   have HO_680001 := n0_
   have HO684 := n1_
   have BK678 := n2_
   have BK679 := n3_
   have HB := n4_
   clear n0_ n1_ n2_ n3_ n4_
   (try clear hb)
   (try clear hb2)
   (try clear hk)
   (try clear hi)
   (try clear ho0)
   obtain ⟨Ao10, co10, eo10⟩ := Kd.R_slice HO_680001.out
   (first | subst eo10 | (injection eo10 with f1_ f2_ f3_; have f4_ := f1_.symm; have f5_ := f3_.symm; clear f1_ f2_ f3_; subst f4_; subst f5_))
   obtain ⟨Ao11, co11, eo11⟩ := Kd.R_slice HO684.out
   (first | subst eo11 | (injection eo11 with f1_ f2_ f3_; have f4_ := f1_.symm; have f5_ := f3_.symm; clear f1_ f2_ f3_; subst f4_; subst f5_))
   refine hK.out _ _ ⟨(blk_cell BK679.out 0).trans rfl, (blk_cell BK679.out 1).trans rfl, ((HB.out.cell (World.block_lt_of_cell? w _ hw680_0)).trans hw680_0)⟩ (fun hHeld => ?_)
   clear hK K
   refine norm_ (a' := ?_) ?_ ?_
   rotate_left
   ·show Act.put _ (some 16) _ = _
    simp only [Act.put, List.setIfInBounds_toArray, List.set_cons_zero, List.set_cons_succ, i64_w, i32_w]
    rfl
   refine one_ (i := 6) (N := some 17) #[true, true, true, true, true, true, true, false] rfl rfl (one_of HT_.out (by kernel_rfl)) (by decide) (fun K hK => ?_)
   refine goes_ Tryz.func84 (by kernel_rfl) rfl #[.agg #[.bool x680000_1, .slice Ao10 x680001_1.length co10], .agg #[.bool t681, .slice Ao11 t682.length co11]] (by rfl) rfl rfl sqA ?_
   with_reducible refine (endonymref2_plus.calls k1 x680000_1 _ _ x680001_1 t681 _ _ t682 t685 t686 _ ?side1 ?side2 ?side3 ?side4 A7.out).mono ?_
   (case side1 => repeat (first | exact (Kd.R_reads' HO_680001.out).2.2 | (with_reducible refine Kd.C_alloc ?_ _) | (with_reducible refine Kd.C_drewN ?_ _) | (with_reducible refine Kd.C_drew ?_)))
   (case side2 => exact (Kd.R_reads' HO_680001.out).2.1)
   (case side3 => repeat (first | exact (Kd.R_reads' HO684.out).2.2 | (with_reducible refine Kd.C_alloc ?_ _) | (with_reducible refine Kd.C_drewN ?_ _) | (with_reducible refine Kd.C_drew ?_)))
   (case side4 => exact (Kd.R_reads' HO684.out).2.1)
   rintro e w12 ⟨v687, rfl, ho0, hb⟩
   refine ⟨_, rfl, ?_⟩
   have n0_ := Aside0.mk (Kd.R_elder' (sqR HO_680001.out) (Kd.R_base ho0) hb)
   have n1_ := Aside0.mk (Kd.R_elder' (sqR HO684.out) (Kd.R_base ho0) hb)
   have n2_ := Aside0.mk (Kd.R_lower (Kd.R_new' (Kd.R_new' ho0 (Kd.R_lt (sqR HO_680001.out))) (Kd.R_lt (sqR HO684.out))) (below_size (by repeat (first | (with_reducible first | exact HB.out | apply below_alloc | apply pw_below_drewN | apply below_drew1 | refine below_set ?_ GE678.out | refine below_set ?_ GE679.out) | exact HB.out))))
   have n3_ := Aside0.mk (blk_below (g := gb678) (o := .cells #[.bool false, .slice none 0 0] 73 (0, 0)) (by (with_reducible repeat (first | refine blk_drewN ?_ _ | refine blk_drew ?_ | refine blk_alloc ?_ _)); exact BK678.out) hb)
   have n4_ := Aside0.mk (blk_below (g := gb679) (o := .cells #[.bool x680000_1, .slice Ao10 x680001_1.length co10] 73 (0, 0)) (by (with_reducible repeat (first | refine blk_drewN ?_ _ | refine blk_drew ?_ | refine blk_alloc ?_ _)); exact BK679.out) hb)
   have n5_ := Aside0.mk (below_step (by repeat (first | (with_reducible first | exact HB.out | apply below_alloc | apply pw_below_drewN | apply below_drew1 | refine below_set ?_ GE678.out | refine below_set ?_ GE679.out) | exact HB.out)) hb)
   clear HO_680001
   clear HO684
   clear BK678
   clear BK679
   clear HB
   have HO_680001 := n0_
   have HO684 := n1_
   have HO688 := n2_
   have BK678 := n3_
   have BK679 := n4_
   have HB := n5_
   clear n0_ n1_ n2_ n3_ n4_ n5_
   (try clear hb)
   (try clear hb2)
   (try clear hk)
   (try clear hi)
   (try clear ho0)
   obtain ⟨Ao14, co14, eo14⟩ := Kd.R_slice HO688.out
   (first | subst eo14 | (injection eo14 with f1_ f2_ f3_; have f4_ := f1_.symm; have f5_ := f3_.symm; clear f1_ f2_ f3_; subst f4_; subst f5_))
   refine hK.out _ _ ⟨(blk_cell BK679.out 0).trans rfl, (blk_cell BK679.out 1).trans rfl, ((HB.out.cell (World.block_lt_of_cell? w _ hw680_0)).trans hw680_0)⟩ (fun hHeld => ?_)
   clear hK K
   refine norm_ (a' := ?_) ?_ ?_
   rotate_left
   ·show Act.put _ (some 17) _ = _
    simp only [Act.put, List.setIfInBounds_toArray, List.set_cons_zero, List.set_cons_succ, i64_w, i32_w]
    rfl
   refine last_ (i := 7) (N := none) #[true, true, true, true, true, true, true, true] rfl rfl (one_of HT_.out (by kernel_rfl)) (by decide) (fun K hK => ?_)
   have hs13 : w12.cell? ⟨gb679, 0, none⟩ = some (.bool x680000_1) := (blk_cell BK679.out 0).trans rfl
   have hfs13 := blk_frozen BK679.out 0
   have hns13_0 := NB678_679.out
   have hms13_0 := NB679_678.out
   have hs15 : w12.cell? ⟨gb679, 1, none⟩ = some (.slice Ao10 x680001_1.length co10) := (blk_cell BK679.out 1).trans rfl
   have hfs15 := blk_frozen BK679.out 1
   have hns15_0 := NB678_679.out
   have hms15_0 := NB679_678.out
   refine skip_ (w1 := ?_) (by rfl) rfl ?_ ?_
   rotate_left
   ·go_simp
    rfl
   refine hK.out _ _ ?_
   clear hK K
   refine done_ (done_of HT_.out (by kernel_rfl)) ?_
   try go_wp2
   go_roundg k1
   case measure => have := HK1.out; omega
   case rel => exact ⟨(wrap64 (x4_1 + 1)), (t685), (t686), (.slice Ao14 t686.length co14), sqE, H', ⟨by have := HK1.out; omega⟩, ⟨by (with_reducible repeat (first | apply Kd.R_alloc | apply Kd.R_drewN | apply Kd.R_drew)); exact Kd.R_mono (Kd.R_far (p := ⟨gb679, 1, none⟩) (Kd.R_far (p := ⟨gb679, 0, none⟩) (Kd.R_types HO688.out BK679.out (by decide)) (fun _ hk => hk.2) (.bool t685)) (fun _ hk => hk.2) (.slice Ao14 t686.length co14)) (fun _ hk => trivial)⟩, ⟨by (with_reducible repeat (first | refine blk_drewN ?_ _ | refine blk_drew ?_ | refine blk_alloc ?_ _)); refine blk_far ?_ NB678_679.out _; (with_reducible repeat (first | refine blk_drewN ?_ _ | refine blk_drew ?_ | refine blk_alloc ?_ _)); refine blk_far ?_ NB678_679.out _; (with_reducible repeat (first | refine blk_drewN ?_ _ | refine blk_drew ?_ | refine blk_alloc ?_ _)); exact BK678.out⟩, ⟨by (with_reducible repeat (first | refine blk_drewN ?_ _ | refine blk_drew ?_ | refine blk_alloc ?_ _)); refine blk_put (cs := #[.bool t685, .slice Ao10 x680001_1.length co10]) ?_ 1 _ rfl; (with_reducible repeat (first | refine blk_drewN ?_ _ | refine blk_drew ?_ | refine blk_alloc ?_ _)); refine blk_put (cs := #[.bool x680000_1, .slice Ao10 x680001_1.length co10]) ?_ 0 _ rfl; (with_reducible repeat (first | refine blk_drewN ?_ _ | refine blk_drew ?_ | refine blk_alloc ?_ _)); exact BK679.out⟩, ⟨by repeat (first | (with_reducible first | exact HB.out | apply below_alloc | apply pw_below_drewN | apply below_drew1 | refine below_set ?_ GE678.out | refine below_set ?_ GE679.out) | exact HB.out)⟩⟩
def endonymref2_Add.j0 : Nat → List Int → Bool → Option (Int)
 | 0, _, _ => none
 | k + 1, x5, x23 => if x23 = true then (some 9223372036854775808) else ((endonymref2_Total.f k x5).bind fun bt694 => ((endonymref2_rounded.f k bt694.1 bt694.2 1).bind fun t698 => (some t698)))
def endonymref2_Add.f (k : Nat) (a0 : Int) (a1 : Int) : Option (Int) := (some (([a0, a1] : List Int) : List Int)).bind fun y689 => ((endonymref2_odd.f k y689).bind fun bt692 => (if bt692.2 = true then (some bt692.1) else (if a0 = 9223372036854775808 then (endonymref2_Add.j0 k y689 (a1 == 9223372036854775808)) else (endonymref2_Add.j0 k y689 false))))
theorem endonymref2_Add.mono_l : ∀ k, (∀ y0 y1, LeO (endonymref2_Add.j0 k y0 y1) (endonymref2_Add.j0 (k + 1) y0 y1))
 | 0 => fun _ _ r h => by simp [endonymref2_Add.j0] at h
 | k + 1 => by
  have ih0 := endonymref2_Add.mono_l k
  intro y0 y1
  unfold endonymref2_Add.j0
  repeat' first | (with_reducible first | apply ih0 | apply endonymref2_Total.mono | apply endonymref2_odd.mono | apply endonymref2_rounded.mono | apply LeO.refl | apply LeO.none | refine LeO.ite ?_ ?_ | refine LeO.bind ?_ (fun _ => ?_)) | apply LeO.none | refine LeO.ite ?_ ?_ | refine LeO.bind ?_ (fun _ => ?_)
theorem endonymref2_Add.mono : ∀ a0 a1 k, LeO (endonymref2_Add.f k a0 a1) (endonymref2_Add.f (k + 1) a0 a1) := by
 intro a0 a1 k
 have ih0 := endonymref2_Add.mono_l k
 unfold endonymref2_Add.f
 repeat' first | (with_reducible first | apply ih0 | apply endonymref2_Total.mono | apply endonymref2_odd.mono | apply endonymref2_rounded.mono | apply LeO.refl | apply LeO.none | refine LeO.ite ?_ ?_ | refine LeO.bind ?_ (fun _ => ?_)) | apply LeO.none | refine LeO.ite ?_ ?_ | refine LeO.bind ?_ (fun _ => ?_)
theorem endonymref2_Add.calls (k : Nat) (a0 : Int) (a1 : Int) (r : Int) (w : World) (h : endonymref2_Add.f k a0 a1 = some r) :
  Calls Tryz.prog 46 #[.int .u64 a0, .int .u64 a1] w fun e w' => e = .returned (.int .u64 r) ∧ Below w.heap.size w w' := by
 have HB := Aside0.mk (Below.refl w.heap.size w)
 have H : ((some (([a0, a1] : List Int) : List Int)).bind fun y689 => ((endonymref2_odd.f k y689).bind fun bt692 => (if bt692.2 = true then (some bt692.1) else (if a0 = 9223372036854775808 then (endonymref2_Add.j0 k y689 (a1 == 9223372036854775808)) else (endonymref2_Add.j0 k y689 false))))) = some r := h
 clear h
 obtain ⟨y689, hy689⟩ : ∃ y_ : List Int, y_ = (([a0, a1] : List Int)) := ⟨_, rfl⟩
 replace H : ((endonymref2_odd.f k y689).bind fun bt692 => (if bt692.2 = true then (some bt692.1) else (if a0 = 9223372036854775808 then (endonymref2_Add.j0 k y689 (a1 == 9223372036854775808)) else (endonymref2_Add.j0 k y689 false)))) = some r := by first | (rw [hy689]; with_reducible exact H) | (have H2_ := (Option.bind_some _ _).symm.trans H; rw [hy689]; with_reducible exact H2_) | (have H2_ := (Option.bind_some _ _).symm.trans H; with_reducible exact H2_) | with_reducible exact H | (rw [hy689]; exact H) | exact H
 have Ny689 := Aside0.mk hy689
 clear hy689
 obtain ⟨⟨t692, t693⟩, A3, H⟩ := sqO H
 try dsimp only at H
 by_cases c4 : t693 = true
 ·subst c4
  have H1 : (some t692) = some r := by rw [if_pos rfl] at H; exact H
  clear H
  have H := H1
  clear H1
  obtain rfl := Option.some.inj H
  go_enter Tryz.func46, Tryz.ntmps46
  go_wp2_with (first | ((with_reducible refine gate_dst (N := 10) rfl ?_); refine Kd.R_lit (Kd.int .u64) _ 26 ?hg (N := 10) ?hd (xs := ([a0, a1] : List Int)) (inner := [.int .u64 a0, .int .u64 a1]) (ok := fun _ => True) (okp := fun _ => True) ?hr ?hp (fun _ hk => hk) trivial (Below.refl _ _) (Nat.le_refl _) (by simp) ?_; (case hd => rfl); (case hg => rfl); (case hr => first | (go_simp; done) | (go_simp; rfl)); (case hp => exact (Reps.one (show Kd.M (Kd.int .u64) _ _ _ a0 [.int .u64 a0] from rfl) (Reps.one (show Kd.M (Kd.int .u64) _ _ _ a1 [.int .u64 a1] from rfl) (Reps.none _ _)))); intro v690 w5 ho6 hb hg_ hnew_; clear hg_ hnew_; (first | rw [← Ny689.out] at ho6 | (simp only [Int.reduceToNat] at ho6; rw [← Ny689.out] at ho6)); have n0_ := Aside0.mk (Kd.R_lower ho6 (below_size sqB)); have n1_ := Aside0.mk (below_step sqB hb); clear HB; have HO691 := n0_; have HB := n1_; clear n0_ n1_; clear hb ho6; obtain ⟨Ao7, co7, eo7⟩ := Kd.R_slice HO691.out; subst eo7) | ((with_reducible refine gate_callee (f := 47) rfl ?_); refine goesL_ (some 13) rfl rfl Tryz.func47 (by kernel_rfl) rfl #[.slice Ao7 y689.length co7] rfl sqA ?_; (with_reducible refine (endonymref2_odd.calls k _ _ y689 t692 true _ ?side1 ?side2 A3.out).mono ?_); (case side1 => repeat (first | exact (Kd.R_reads' HO691.out).2.2 | (with_reducible refine Kd.C_alloc ?_ _) | (with_reducible refine Kd.C_drewN ?_ _) | (with_reducible refine Kd.C_drew ?_))); (case side2 => exact (Kd.R_reads' HO691.out).2.1); rintro e w' ⟨rfl, ⟨nd, rfl⟩⟩; refine ⟨_, rfl, ?_⟩))
  go_ret
  exact ⟨sqE', sqB⟩
 replace c4 := Bool.eq_false_iff.mpr c4
 subst c4
 have H1 : (if a0 = 9223372036854775808 then (endonymref2_Add.j0 k y689 (a1 == 9223372036854775808)) else (endonymref2_Add.j0 k y689 false)) = some r := by rw [if_neg (show ¬ (false = true) by decide)] at H; exact H
 clear H
 have H := H1
 clear H1
 have HC8 := Aside0.mk H
 clear H
 go_enter Tryz.func46, Tryz.ntmps46
 go_upto_region 5 with (first | ((with_reducible refine gate_dst (N := 10) rfl ?_); refine Kd.R_lit (Kd.int .u64) _ 26 ?hg (N := 10) ?hd (xs := ([a0, a1] : List Int)) (inner := [.int .u64 a0, .int .u64 a1]) (ok := fun _ => True) (okp := fun _ => True) ?hr ?hp (fun _ hk => hk) trivial (Below.refl _ _) (Nat.le_refl _) (by simp) ?_; (case hd => rfl); (case hg => rfl); (case hr => first | (go_simp; done) | (go_simp; rfl)); (case hp => exact (Reps.one (show Kd.M (Kd.int .u64) _ _ _ a0 [.int .u64 a0] from rfl) (Reps.one (show Kd.M (Kd.int .u64) _ _ _ a1 [.int .u64 a1] from rfl) (Reps.none _ _)))); intro v690 w9 ho10 hb hg_ hnew_; clear hg_ hnew_; (first | rw [← Ny689.out] at ho10 | (simp only [Int.reduceToNat] at ho10; rw [← Ny689.out] at ho10)); have n0_ := Aside0.mk (Kd.R_lower ho10 (below_size sqB)); have n1_ := Aside0.mk (below_step sqB hb); clear HB; have HO691 := n0_; have HB := n1_; clear n0_ n1_; clear hb ho10; obtain ⟨Ao11, co11, eo11⟩ := Kd.R_slice HO691.out; subst eo11) | ((with_reducible refine gate_callee (f := 47) rfl ?_); refine goesL_ (some 13) rfl rfl Tryz.func47 (by kernel_rfl) rfl #[.slice Ao11 y689.length co11] rfl sqA ?_; (with_reducible refine (endonymref2_odd.calls k _ _ y689 t692 false _ ?side1 ?side2 A3.out).mono ?_); (case side1 => repeat (first | exact (Kd.R_reads' HO691.out).2.2 | (with_reducible refine Kd.C_alloc ?_ _) | (with_reducible refine Kd.C_drewN ?_ _) | (with_reducible refine Kd.C_drew ?_))); (case side2 => exact (Kd.R_reads' HO691.out).2.1); rintro e w' ⟨rfl, ⟨nd, rfl⟩⟩; refine ⟨_, rfl, ?_⟩))
 (try simp only [Act.put, List.setIfInBounds_toArray, List.set_cons_zero, List.set_cons_succ])
 go_cut [23] (fun v23 wc => ∃ (kq : Nat) (x23_7 : Bool), v23 = .bool x23_7 ∧ Aside0 (endonymref2_Add.j0 kq y689 x23_7 = some r) ∧ Aside0 (kq ≤ k) ∧ Aside0 (Kd.R (Kd.int .u64) 26 wc w.heap.size (fun _ => True) (.slice Ao11 y689.length co11) y689) ∧ Aside0 (Below w.heap.size w wc))
 case first =>
  have H := HC8.out
  clear HC8
  by_cases c12 : a0 = 9223372036854775808
  ·rw [if_pos c12] at H
   have c12b0 := beq_iff_eq.mpr c12
   have c12b1 := bne_eq_false_iff_eq.mpr c12
   clear c12
   (first | rw [c12b0] | (simp only [i64_w, i32_w]; rw [c12b0]) | skip)
   have H' := Aside0.mk H
   clear H
   go_wp2
   go_meet
   case rel => exact ⟨_, ((a1 == 9223372036854775808)), sqE, H', ⟨by first | omega | exact Nat.le_refl _⟩, ⟨sqR HO691.out⟩, ⟨sqB⟩⟩
  rw [if_neg c12] at H
  have c12b0 := beq_eq_false_iff_ne.mpr c12
  have c12b1 := bne_iff_ne.mpr c12
  (first | rw [c12b0] | (simp only [i64_w, i32_w]; rw [c12b0]) | skip)
  have H' := Aside0.mk H
  clear H
  go_wp2
  go_meet
  case rel => exact ⟨_, (false), sqE, H', ⟨by first | omega | exact Nat.le_refl _⟩, ⟨sqR HO691.out⟩, ⟨sqB⟩⟩
 case rest =>
  clear HC8
  try clear c1
  try clear p2
  try clear c4
  try clear c12
  try clear c12b0
  try clear c12b1
  obtain ⟨kq, x23_7, rfl, HA, HJ7, HO_5, HB⟩ := hcut
  cases kq with
  | zero => exact absurd HA.out (by simp [endonymref2_Add.j0])
  | succ kj7 =>
   have H := HA.out
   clear HA
   simp only [endonymref2_Add.j0] at H
   by_cases c13 : x23_7 = true
   ·subst c13
    have H1 : (some 9223372036854775808) = some r := by rw [if_pos rfl] at H; exact H
    clear H
    have H := H1
    clear H1
    obtain rfl := Option.some.inj H
    go_wp2
    go_ret
    exact ⟨sqE', sqB⟩
   replace c13 := Bool.eq_false_iff.mpr c13
   subst c13
   have H1 : ((endonymref2_Total.f kj7 y689).bind fun bt694 => ((endonymref2_rounded.f kj7 bt694.1 bt694.2 1).bind fun t698 => (some t698))) = some r := by rw [if_neg (show ¬ (false = true) by decide)] at H; exact H
   clear H
   have H := H1
   clear H1
   obtain ⟨⟨t694, t695⟩, A14, H⟩ := sqO H
   try dsimp only at H
   obtain ⟨t698, A15, H⟩ := sqO H
   try dsimp only at H
   obtain rfl := Option.some.inj H
   go_wp2_with (first | ((with_reducible refine gate_callee (f := 49) rfl ?_); refine goesL_ (some 25) rfl rfl Tryz.func49 (by kernel_rfl) rfl #[.slice Ao11 y689.length co11] rfl sqA ?_; (with_reducible refine (endonymref2_Total.calls kj7 _ _ y689 t694 t695 _ ?side1 ?side2 A14.out).mono ?_); (case side1 => repeat (first | exact (Kd.R_reads' HO_5.out).2.2 | (with_reducible refine Kd.C_alloc ?_ _) | (with_reducible refine Kd.C_drewN ?_ _) | (with_reducible refine Kd.C_drew ?_))); (case side2 => exact (Kd.R_reads' HO_5.out).2.1); rintro e w16 ⟨v696, rfl, ho0, hb⟩; refine ⟨_, rfl, ?_⟩; have n0_ := Aside0.mk (Kd.R_below (sqR HO_5.out) hb); have n1_ := Aside0.mk (Kd.R_lower ho0 (below_size sqB)); have n2_ := Aside0.mk (below_step sqB hb); clear HO_5; clear HB; have HO_5 := n0_; have HO697 := n1_; have HB := n2_; clear n0_ n1_ n2_; (try clear hb); (try clear hb2); (try clear hk); (try clear hi); (try clear ho0); obtain ⟨Ao17, co17, eo17⟩ := Kd.R_slice HO697.out; subst eo17) | ((with_reducible refine gate_callee (f := 48) rfl ?_); refine goesL_ (some 26) rfl rfl Tryz.func48 (by kernel_rfl) rfl #[.agg #[.bool t694, .slice Ao17 t695.length co17], .int .i64 1] rfl sqA ?_; (with_reducible refine (endonymref2_rounded.calls kj7 t694 _ _ t695 1 t698 _ ?side1 ?side2 A15.out).mono ?_); (case side1 => repeat (first | exact (Kd.R_reads' HO697.out).2.2 | (with_reducible refine Kd.C_alloc ?_ _) | (with_reducible refine Kd.C_drewN ?_ _) | (with_reducible refine Kd.C_drew ?_))); (case side2 => exact (Kd.R_reads' HO697.out).2.1); rintro e w18 ⟨rfl, hb⟩; refine ⟨_, rfl, ?_⟩; have n0_ := Aside0.mk (Kd.R_below (sqR HO_5.out) hb); have n1_ := Aside0.mk (Kd.R_below (sqR HO697.out) hb); have n2_ := Aside0.mk (below_step sqB hb); clear HO_5; clear HO697; clear HB; have HO_5 := n0_; have HO697 := n1_; have HB := n2_; clear n0_ n1_ n2_; (try clear hb); (try clear hb2); (try clear hk); (try clear hi)))
   go_ret
   exact ⟨sqE', sqB⟩
def endonymref2_Sum.l0 : Nat → List Int → Int → Int → Option (Int)
 | 0, _, _, _ => none
 | k + 1, x0, x3, x4 => if x4 < (x0.length : Int) then (if 0 ≤ x4 then ((endonymref2_Add.f k x3 (rd x0 x4)).bind fun t700 => (endonymref2_Sum.l0 k x0 t700 (wrap64 (x4 + 1)))) else (none)) else (some x3)
def endonymref2_Sum.f (k : Nat) (l0 : List Int) : Option (Int) := endonymref2_Sum.l0 k l0 0 0
theorem endonymref2_Sum.mono_l : ∀ k, (∀ y0 y1 y2, LeO (endonymref2_Sum.l0 k y0 y1 y2) (endonymref2_Sum.l0 (k + 1) y0 y1 y2))
 | 0 => fun _ _ _ r h => by simp [endonymref2_Sum.l0] at h
 | k + 1 => by
  have ih0 := endonymref2_Sum.mono_l k
  intro y0 y1 y2
  unfold endonymref2_Sum.l0
  repeat' first | (with_reducible first | apply ih0 | apply endonymref2_Add.mono | apply LeO.refl | apply LeO.none | refine LeO.ite ?_ ?_ | refine LeO.bind ?_ (fun _ => ?_)) | apply LeO.none | refine LeO.ite ?_ ?_ | refine LeO.bind ?_ (fun _ => ?_)
theorem endonymref2_Sum.mono : ∀ a0 k, LeO (endonymref2_Sum.f k a0) (endonymref2_Sum.f (k + 1) a0) := by
 intro a0 k
 have ih0 := endonymref2_Sum.mono_l k
 unfold endonymref2_Sum.f
 repeat' first | (with_reducible first | apply ih0 | apply endonymref2_Add.mono | apply LeO.refl | apply LeO.none | refine LeO.ite ?_ ?_ | refine LeO.bind ?_ (fun _ => ?_)) | apply LeO.none | refine LeO.ite ?_ ?_ | refine LeO.bind ?_ (fun _ => ?_)
theorem endonymref2_Sum.calls (k : Nat) (A0 : Option Addr) (c0 : Nat) (l0 : List Int) (r : Int) (w : World) (hr0 : Kd.C (Kd.int .u64) w A0 l0.length l0) (hc0 : l0.length ≤ c0) (h : endonymref2_Sum.f k l0 = some r) :
  Calls Tryz.prog 19 #[.slice A0 l0.length c0] w fun e w' => e = .returned (.int .u64 r) ∧ Below w.heap.size w w' := by
 have HR0 := Aside0.mk hr0
 have HC0 := Aside0.mk hc0
 clear hr0 hc0
 have HB := Aside0.mk (Below.refl w.heap.size w)
 have H : (endonymref2_Sum.l0 k l0 0 0) = some r := h
 clear h
 have H' := Aside0.mk H
 clear H
 go_enter Tryz.func19, Tryz.ntmps19
 go_wp2
 go_loopg [3, 4] k (fun kq v3 v4 w' => ∃ (x3_1 : Int) (x4_1 : Int), v3 = .int .u64 x3_1 ∧ v4 = .int .i64 x4_1 ∧ Aside0 (endonymref2_Sum.l0 kq l0 x3_1 x4_1 = some r) ∧ Aside0 (kq ≤ k) ∧ Aside0 (Below w.heap.size w w'))
 case atStart => exact ⟨(0), (0), sqE, sqE, H', ⟨Nat.le_refl _⟩, ⟨sqB⟩⟩
 case round =>
  clear H'
  try clear c1
  obtain ⟨x3_1, x4_1, rfl, rfl, HA, HK1, HB⟩ := hrel
  cases gk with
  | zero => exact absurd HA.out (by simp [endonymref2_Sum.l0])
  | succ k1 =>
   have H := HA.out
   clear HA
   simp only [endonymref2_Sum.l0] at H
   by_cases c2 : x4_1 < (l0.length : Int)
   case neg =>
    rw [if_neg c2] at H
    have c2b0 := decide_eq_false c2
    clear c2
    obtain rfl := Option.some.inj H
    go_wp2
    go_ret
    exact ⟨sqE', sqB⟩
   rw [if_pos c2] at H
   have c2b0 := decide_eq_true c2
   clear c2
   by_cases c3 : 0 ≤ x4_1
   case neg => rw [if_neg c3] at H; exact absurd H (by simp)
   rw [if_pos c3] at H
   have c3b0 := decide_eq_true c3
   clear c3
   obtain ⟨t700, A4, H⟩ := sqO H
   try dsimp only at H
   have H' := Aside0.mk H
   clear H
   have p699 : 0 ≤ (x4_1 : Int) := sqD
   have q699 : x4_1 < (l0.length : Int) := sqD
   obtain ⟨ad699, e699, hx699_0⟩ := Kd.at_int HR0.out x4_1 p699 q699
   cases e699
   replace hx699_0 := (HB.out.cell (World.block_lt_of_cell? w _ hx699_0)).trans hx699_0
   replace p699 := eq_true p699
   replace q699 := eq_true q699
   go_wp2_with (first | ((with_reducible refine gate_callee (f := 46) rfl ?_); refine goesL_ (some 16) rfl rfl Tryz.func46 (by kernel_rfl) rfl #[.int .u64 x3_1, .int .u64 (rd l0 x4_1)] rfl sqA ?_; (with_reducible refine (endonymref2_Add.calls k1 x3_1 (rd l0 x4_1) t700 _ A4.out).mono ?_); rintro e w5 ⟨rfl, hb⟩; refine ⟨_, rfl, ?_⟩; have n0_ := Aside0.mk (below_step sqB hb); clear HB; have HB := n0_; clear n0_; (try clear hb); (try clear hb2); (try clear hk); (try clear hi)))
   go_roundg k1
   case measure => have := HK1.out; omega
   case rel => exact ⟨(t700), (wrap64 (x4_1 + 1)), sqE, sqE, H', ⟨by have := HK1.out; omega⟩, ⟨sqB⟩⟩
def endonymref2_Pairs.f : Nat → List Int → Option (Int)
 | 0, _ => none
 | k + 1, l0 => if (l0.length : Int) = 0 then (some 0) else (if (l0.length : Int) = 1 then (if 0 < (l0.length : Int) then (some (rd l0 0)) else (none)) else (if 0 ≤ (wrap64 ((l0.length : Int) / 2)) then (if (wrap64 ((l0.length : Int) / 2)) ≤ (l0.length : Int) then ((endonymref2_Pairs.f k (l0.take ((wrap64 ((l0.length : Int) / 2)) : Int).toNat)).bind fun t703 => ((endonymref2_Pairs.f k (l0.drop ((wrap64 ((l0.length : Int) / 2)) : Int).toNat)).bind fun t705 => ((endonymref2_Add.f k t703 t705).bind fun t706 => (some t706)))) else (none)) else (none)))
theorem endonymref2_Pairs.mono_l : ∀ k, (∀ y0, LeO (endonymref2_Pairs.f k y0) (endonymref2_Pairs.f (k + 1) y0))
 | 0 => fun _ r h => by simp [endonymref2_Pairs.f] at h
 | k + 1 => by
  have ih0 := endonymref2_Pairs.mono_l k
  intro y0
  unfold endonymref2_Pairs.f
  repeat' first | (with_reducible first | apply ih0 | apply endonymref2_Add.mono | apply LeO.refl | apply LeO.none | refine LeO.ite ?_ ?_ | refine LeO.bind ?_ (fun _ => ?_)) | apply LeO.none | refine LeO.ite ?_ ?_ | refine LeO.bind ?_ (fun _ => ?_)
theorem endonymref2_Pairs.mono : ∀ a0 k, LeO (endonymref2_Pairs.f k a0) (endonymref2_Pairs.f (k + 1) a0) := by
 intro a0 k
 have ih0 := endonymref2_Pairs.mono_l k
 exact ih0 a0
def endonymref2_Pairs.T7 : Bool × List (List Nat × List Nat) := (true, [([], []), ([], []), ([0, 1], [0, 1]), ([2], [2]), ([], []), ([], []), ([4, 5], [4, 5]), ([6, 3], [6]), ([3, 7, 7], [3, 7]), ([8, 8, 0, 1, 2, 3, 4, 5, 6, 7, 8], [8])])
def endonymref2_Pairs.B7 : List Nat := [0, 0, 3, 7, 0, 0, 48, 127, 255, 511]
theorem endonymref2_Pairs.tab7 : rtab .any (opsOf Tryz.f20 7) = endonymref2_Pairs.T7 := by kernel_rfl
theorem endonymref2_Pairs.bits7 : waitsOk endonymref2_Pairs.T7.2 endonymref2_Pairs.B7 = true := by kernel_rfl
theorem endonymref2_Pairs.calls (k : Nat) : ∀ (A0 : Option Addr) (c0 : Nat) (l0 : List Int) (r : Int) (w : World) (hr0 : Kd.C (Kd.int .u64) w A0 l0.length l0) (hc0 : l0.length ≤ c0) (h : endonymref2_Pairs.f k l0 = some r),
  Calls Tryz.prog 20 #[.slice A0 l0.length c0] w fun e w' => e = .returned (.int .u64 r) ∧ Below w.heap.size w w' := by
 induction k using Nat.strongRecOn with
 | _ k ih =>
 intro A0 c0 l0 r w hr0 hc0 h
 cases k with
 | zero => exact absurd h (by simp [endonymref2_Pairs.f])
 | succ k =>
 simp only [endonymref2_Pairs.f] at h
 have HR0 := Aside0.mk hr0
 have HC0 := Aside0.mk hc0
 clear hr0 hc0
 have HB := Aside0.mk (Below.refl w.heap.size w)
 have H : (if (l0.length : Int) = 0 then (some 0) else (if (l0.length : Int) = 1 then (if 0 < (l0.length : Int) then (some (rd l0 0)) else (none)) else (if 0 ≤ (wrap64 ((l0.length : Int) / 2)) then (if (wrap64 ((l0.length : Int) / 2)) ≤ (l0.length : Int) then ((endonymref2_Pairs.f k (l0.take ((wrap64 ((l0.length : Int) / 2)) : Int).toNat)).bind fun t703 => ((endonymref2_Pairs.f k (l0.drop ((wrap64 ((l0.length : Int) / 2)) : Int).toNat)).bind fun t705 => ((endonymref2_Add.f k t703 t705).bind fun t706 => (some t706)))) else (none)) else (none)))) = some r := h
 clear h
 by_cases c2 : (l0.length : Int) = 0
 ·rw [if_pos c2] at H
  have c2b0 := beq_iff_eq.mpr c2
  have c2b1 := bne_eq_false_iff_eq.mpr c2
  clear c2
  obtain rfl := Option.some.inj H
  go_enter Tryz.func20, Tryz.ntmps20
  go_wp2
  go_ret
  exact ⟨sqE', sqB⟩
 rw [if_neg c2] at H
 have c2b0 := beq_eq_false_iff_ne.mpr c2
 have c2b1 := bne_iff_ne.mpr c2
 have c2b2 : ¬ (l0 = []) := fun h_ => c2 (by rw [h_]; rfl)
 by_cases c3 : (l0.length : Int) = 1
 ·rw [if_pos c3] at H
  have c3b0 := beq_iff_eq.mpr c3
  have c3b1 := bne_eq_false_iff_eq.mpr c3
  clear c3
  by_cases c4 : 0 < (l0.length : Int)
  case neg => rw [if_neg c4] at H; exact absurd H (by simp)
  rw [if_pos c4] at H
  have c4b0 := decide_eq_true c4
  have c4b1 : decide (0 < l0.length) = true := decide_eq_true (by omega)
  clear c4
  obtain rfl := Option.some.inj H
  have p701 : 0 ≤ (0 : Int) := (by omega)
  have q701 : 0 < (l0.length : Int) := sqD
  obtain ⟨ad701, e701, hx701_0⟩ := Kd.at_int HR0.out 0 p701 q701
  cases e701
  have qi701 : (0 < l0.length) = True := eq_true (by omega)
  (try rw [show ((0 : Int)).toNat = 0 from rfl] at hx701_0)
  (try rw [Addr.add_zero'] at hx701_0)
  replace p701 := eq_true p701
  replace q701 := eq_true q701
  go_enter Tryz.func20, Tryz.ntmps20
  go_wp2
  go_ret
  exact ⟨sqE', sqB⟩
 rw [if_neg c3] at H
 have c3b0 := beq_eq_false_iff_ne.mpr c3
 have c3b1 := bne_iff_ne.mpr c3
 obtain ⟨ji5, hji5⟩ : ∃ j_ : Int, (wrap64 ((l0.length : Int) / 2)) = j_ := ⟨_, rfl⟩
 replace H : (if 0 ≤ (ji5) then (if (ji5) ≤ (l0.length : Int) then ((endonymref2_Pairs.f k (l0.take ((ji5) : Int).toNat)).bind fun t703 => ((endonymref2_Pairs.f k (l0.drop ((ji5) : Int).toNat)).bind fun t705 => ((endonymref2_Add.f k t703 t705).bind fun t706 => (some t706)))) else (none)) else (none)) = some r := by first | (rw [hji5] at H; exact H) | (simp only [hji5] at H ⊢; exact H)
 have hji5w : (IntKind.i64.wrap ((l0.length : Int) / 2)) = ji5 := (i64_w _).trans hji5
 by_cases c6 : 0 ≤ (ji5)
 case neg => rw [if_neg c6] at H; exact absurd H (by simp)
 rw [if_pos c6] at H
 have c6b0 := eq_true c6
 have c6b1 := decide_eq_true c6
 clear c6
 by_cases c7 : (ji5) ≤ (l0.length : Int)
 case neg => rw [if_neg c7] at H; exact absurd H (by simp)
 rw [if_pos c7] at H
 have c7b0 := eq_true c7
 have c7b1 := decide_eq_true c7
 clear c7
 obtain ⟨t703, A8, H⟩ := sqO H
 try dsimp only at H
 have c9b0 := eq_true (sqD : 0 ≤ (ji5))
 have c10b0 := eq_true (sqD : (ji5) ≤ (l0.length : Int))
 obtain ⟨t705, A11, H⟩ := sqO H
 try dsimp only at H
 obtain ⟨t706, A12, H⟩ := sqO H
 try dsimp only at H
 obtain rfl := Option.some.inj H
 go_enter Tryz.func20, Tryz.ntmps20
 try go_wp2
 have n0_ := Aside0.mk (below_drew1 HB.out)
 clear HB
 have HB := n0_
 clear n0_
 obtain ⟨i014, hi014, _, hsz14, _⟩ := info_parts info26
 obtain ⟨hcut14, hA14, hC14⟩ := print_take_of (P := Tryz.prog) (Value.int .u64) 0 36 26 .i64 Tryz.underlying36 hi014 hsz14 A0 c0 l0 (ji5) sqD sqD HC0.out
 have HR702 := Aside0.mk (Kd.C_of_reads (h1 := fun _ => rfl) (hA14 _ (Kd.reads_of_C HR0.out)))
 have HC702 := Aside0.mk hC14
 clear hA14 hC14 hi014 hsz14
 obtain ⟨i015, hi015, _, hsz15, _⟩ := info_parts info26
 obtain ⟨A15, hcut15, hA15, hC15⟩ := print_drop_of (P := Tryz.prog) (Value.int .u64) 0 36 26 .i64 Tryz.underlying36 hi015 hsz15 A0 c0 l0 (ji5) sqD sqD HC0.out
 have HR704 := Aside0.mk (Kd.C_of_reads (h1 := fun _ => rfl) (hA15 _ (Kd.reads_of_C HR0.out)))
 have HC704 := Aside0.mk hC15
 clear hA15 hC15 hi015 hsz15
 refine start_ (n := 10) (S := fun w' => True) (ds := []) #[false, false, false, false, false, false, false, false, false, false] (by kernel_rfl) rfl rfl trivial (fun hHeld => ?_); refine with_tabW endonymref2_Pairs.tab7 endonymref2_Pairs.bits7 (fun HT_ HW_ => ?_)
 generalize w.drew = w13 at HB HR702 HR704 hHeld ⊢
 refine pure_ (i := 0) (N := some 16) (v := ?_) (a' := ?_) #[true, false, false, false, false, false, false, false, false, false] rfl rfl (any_of HT_.out (by kernel_rfl)) (fun _ _ _ h => h) (Or.inl ⟨by rfl, ?_⟩) ?_ ?_
 rotate_left
 ·intro w'
  go_simp
  with_reducible rfl
 rotate_left
 ·simp only [Act.put, List.setIfInBounds_toArray, List.set_cons_zero, List.set_cons_succ, i64_w, i32_w]
  rfl
 refine pure_ (i := 1) (N := some 17) (v := ?_) (a' := ?_) #[true, true, false, false, false, false, false, false, false, false] rfl rfl (any_of HT_.out (by kernel_rfl)) (fun _ _ _ h => h) (Or.inl ⟨by rfl, ?_⟩) ?_ ?_
 rotate_left
 ·intro w'
  go_simp
  with_reducible rfl
 rotate_left
 ·simp only [Act.put, List.setIfInBounds_toArray, List.set_cons_zero, List.set_cons_succ, i64_w, i32_w]
  rfl
 refine pure_ (i := 2) (N := some 18) (v := ?_) (a' := ?_) #[true, true, true, false, false, false, false, false, false, false] rfl rfl (any_of HT_.out (by kernel_rfl)) (fun _ _ _ h => h) (Or.inl ⟨by rfl, ?_⟩) ?_ ?_
 rotate_left
 ·intro w'
  go_simp
  with_reducible rfl
 rotate_left
 ·simp only [Act.put, List.setIfInBounds_toArray, List.set_cons_zero, List.set_cons_succ, i64_w, i32_w]
  rfl
 refine pure_ (i := 4) (N := some 20) (v := ?_) (a' := ?_) #[true, true, true, false, true, false, false, false, false, false] rfl rfl (any_of HT_.out (by kernel_rfl)) (fun _ _ _ h => h) (Or.inl ⟨by rfl, ?_⟩) ?_ ?_
 rotate_left
 ·intro w'
  go_simp
  with_reducible rfl
 rotate_left
 ·simp only [Act.put, List.setIfInBounds_toArray, List.set_cons_zero, List.set_cons_succ, i64_w, i32_w]
  rfl
 refine pure_ (i := 5) (N := some 21) (v := ?_) (a' := ?_) #[true, true, true, false, true, true, false, false, false, false] rfl rfl (any_of HT_.out (by kernel_rfl)) (fun _ _ _ h => h) (Or.inl ⟨by rfl, ?_⟩) ?_ ?_
 rotate_left
 ·intro w'
  go_simp
  with_reducible rfl
 rotate_left
 ·simp only [Act.put, List.setIfInBounds_toArray, List.set_cons_zero, List.set_cons_succ, i64_w, i32_w]
  rfl
 refine pure_ (i := 6) (N := some 22) (v := ?_) (a' := ?_) #[true, true, true, false, true, true, true, false, false, false] rfl rfl (any_of HT_.out (by kernel_rfl)) (fun _ _ _ h => h) (Or.inl ⟨by rfl, ?_⟩) ?_ ?_
 rotate_left
 ·intro w'
  go_simp
  with_reducible rfl
 rotate_left
 ·simp only [Act.put, List.setIfInBounds_toArray, List.set_cons_zero, List.set_cons_succ, i64_w, i32_w]
  rfl
 refine one_ (i := 3) (N := some 19) #[true, true, true, true, true, true, true, false, false, false] rfl rfl (one_of HT_.out (by kernel_rfl)) (by decide) (fun K hK => ?_)
 refine goes_ Tryz.func20 (by kernel_rfl) rfl #[.slice A0 (l0.take ((ji5) : Int).toNat).length c0] (by rfl) rfl rfl (by (try simp only [List.map_toArray, List.map_cons, List.map_nil]); first | done | (rw [show (l0.take ((ji5) : Int).toNat).length = (ji5).toNat from (by rw [List.length_take]; have h_ : ((ji5) : Int) ≤ (l0.length : Int) := sqD; omega)] <;> rfl) | (simp only [hji5]; rfl) | rfl | (simp only [List.length_drop, List.length_take]; rfl)) ?_
 with_reducible refine (ih k (by omega) _ _ (l0.take ((ji5) : Int).toNat) t703 _ ?side1 ?side2 A8.out).mono ?_
 (case side1 => repeat (first | exact (Kd.C_below HR702.out HB.out) | (with_reducible refine Kd.C_alloc ?_ _) | (with_reducible refine Kd.C_drewN ?_ _) | (with_reducible refine Kd.C_drew ?_)))
 (case side2 => exact HC702.out)
 rintro e w16 ⟨rfl, hb⟩
 refine ⟨_, rfl, ?_⟩
 have n0_ := Aside0.mk (below_step sqB hb)
 clear HB
 have HB := n0_
 clear n0_
 (try clear hb)
 (try clear hb2)
 (try clear hk)
 (try clear hi)
 refine hK.out _ _ trivial (fun hHeld => ?_)
 clear hK K
 refine norm_ (a' := ?_) ?_ ?_
 rotate_left
 ·show Act.put _ (some 19) _ = _
  simp only [Act.put, List.setIfInBounds_toArray, List.set_cons_zero, List.set_cons_succ, i64_w, i32_w]
  rfl
 refine one_ (i := 7) (N := some 23) #[true, true, true, true, true, true, true, true, false, false] rfl rfl (one_of HT_.out (by kernel_rfl)) (by decide) (fun K hK => ?_)
 refine goes_ Tryz.func20 (by kernel_rfl) rfl #[.slice A15 (l0.drop ((ji5) : Int).toNat).length (c0 - (ji5).toNat)] (by rfl) rfl rfl (by (try simp only [List.map_toArray, List.map_cons, List.map_nil]); first | done | (rw [show (l0.drop ((ji5) : Int).toNat).length = (l0.length - (ji5).toNat) from List.length_drop] <;> rfl) | (simp only [hji5]; rfl) | rfl | (simp only [List.length_drop, List.length_take]; rfl)) ?_
 with_reducible refine (ih k (by omega) _ _ (l0.drop ((ji5) : Int).toNat) t705 _ ?side1 ?side2 A11.out).mono ?_
 (case side1 => repeat (first | exact (Kd.C_below HR704.out HB.out) | (with_reducible refine Kd.C_alloc ?_ _) | (with_reducible refine Kd.C_drewN ?_ _) | (with_reducible refine Kd.C_drew ?_)))
 (case side2 => exact HC704.out)
 rintro e w17 ⟨rfl, hb⟩
 refine ⟨_, rfl, ?_⟩
 have n0_ := Aside0.mk (below_step sqB hb)
 clear HB
 have HB := n0_
 clear n0_
 (try clear hb)
 (try clear hb2)
 (try clear hk)
 (try clear hi)
 refine hK.out _ _ trivial (fun hHeld => ?_)
 clear hK K
 refine norm_ (a' := ?_) ?_ ?_
 rotate_left
 ·show Act.put _ (some 23) _ = _
  simp only [Act.put, List.setIfInBounds_toArray, List.set_cons_zero, List.set_cons_succ, i64_w, i32_w]
  rfl
 refine one_ (i := 8) (N := some 24) #[true, true, true, true, true, true, true, true, true, false] rfl rfl (one_of HT_.out (by kernel_rfl)) (by decide) (fun K hK => ?_)
 refine goes_ Tryz.func46 (by kernel_rfl) rfl #[.int .u64 t703, .int .u64 t705] (by rfl) rfl rfl sqA ?_
 with_reducible refine (endonymref2_Add.calls k t703 t705 t706 _ A12.out).mono ?_
 rintro e w18 ⟨rfl, hb⟩
 refine ⟨_, rfl, ?_⟩
 have n0_ := Aside0.mk (below_step sqB hb)
 clear HB
 have HB := n0_
 clear n0_
 (try clear hb)
 (try clear hb2)
 (try clear hk)
 (try clear hi)
 refine hK.out _ _ trivial (fun hHeld => ?_)
 clear hK K
 refine norm_ (a' := ?_) ?_ ?_
 rotate_left
 ·show Act.put _ (some 24) _ = _
  simp only [Act.put, List.setIfInBounds_toArray, List.set_cons_zero, List.set_cons_succ, i64_w, i32_w]
  rfl
 refine pure_ (i := 9) (N := some 2) (v := ?_) (a' := ?_) #[true, true, true, true, true, true, true, true, true, true] rfl rfl (any_of HT_.out (by kernel_rfl)) (fun _ _ _ h => h) (Or.inl ⟨by rfl, ?_⟩) ?_ ?_
 rotate_left
 ·intro w'
  go_simp
  with_reducible rfl
 rotate_left
 ·simp only [Act.put, List.setIfInBounds_toArray, List.set_cons_zero, List.set_cons_succ, i64_w, i32_w]
  rfl
 refine done_ (done_of HT_.out (by kernel_rfl)) ?_
 try go_wp2
 go_ret
 exact ⟨by first | rfl | (simp [errW_none, errW_some] <;> rfl) | (simp only [← hji5]; first | rfl | (simp [errW_none, errW_some] <;> rfl)) | (simp [*, errW_none, errW_some] <;> rfl), sqB⟩
end Go.Proofs.YtfmjdoofopamkaaGreatDoor.W
