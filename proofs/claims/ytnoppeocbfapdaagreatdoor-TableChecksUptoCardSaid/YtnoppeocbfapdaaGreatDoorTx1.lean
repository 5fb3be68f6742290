import Derived.Test.YtnoppeocbfapdaaGreatDoorTx0
namespace Go.Proofs.YtnoppeocbfapdaaGreatDoor.T
open Go.RowKit Go.Proofs.YtnoppeocbfapdaaGreatDoorW.PrintWords Go.Proofs.YtnoppeocbfapdaaGreatDoorW.PrintLast Go.Proofs.YtnoppeocbfapdaaGreatDoorW.PrintMore
set_option maxHeartbeats 8000000
set_option maxRecDepth 100000
attribute [local go_sem] max2_int min2_int max_two min_two max_three min_three max_four min_four
set_option linter.unusedVariables false
set_option linter.unusedSimpArgs false
def endonymref6_Copied.l0 : Nat → List (S25) → List (S25) → Int → Option ((List (S25)))
 | 0, _, _, _ => none
 | k + 1, x0, x3, x4 => if x4 < (x0.length : Int) then (if 0 ≤ x4 then (if ([] : List Int).length + ((rd_T25 x0 x4).f4).length < 35184372088832 then (if x3.length < 1466015503701 then (endonymref6_Copied.l0 k x0 (x3 ++ [(⟨(rd_T25 x0 x4).f0, (rd_T25 x0 x4).f1, (rd_T25 x0 x4).f2, (rd_T25 x0 x4).f3, (([] : List Int) ++ ((rd_T25 x0 x4).f4)), (rd_T25 x0 x4).f5, (rd_T25 x0 x4).f6, (rd_T25 x0 x4).f7⟩ : S25)]) (wrap64 (x4 + 1))) else (none)) else (none)) else (none)) else (some x3)
def endonymref6_Copied.f (k : Nat) (l0 : List (S25)) : Option ((List (S25))) := endonymref6_Copied.l0 k l0 ([] : List (S25)) 0
theorem endonymref6_Copied.mono_l : ∀ k, (∀ y0 y1 y2, LeO (endonymref6_Copied.l0 k y0 y1 y2) (endonymref6_Copied.l0 (k + 1) y0 y1 y2))
 | 0 => fun _ _ _ r h => by simp [endonymref6_Copied.l0] at h
 | k + 1 => by
  have ih0 := endonymref6_Copied.mono_l k
  intro y0 y1 y2
  unfold endonymref6_Copied.l0
  repeat' first | (with_reducible first | apply ih0 | apply LeO.refl | apply LeO.none | refine LeO.ite ?_ ?_ | refine LeO.bind ?_ (fun _ => ?_)) | apply LeO.none | refine LeO.ite ?_ ?_ | refine LeO.bind ?_ (fun _ => ?_)
theorem endonymref6_Copied.mono : ∀ a0 k, LeO (endonymref6_Copied.f k a0) (endonymref6_Copied.f (k + 1) a0) := by
 intro a0 k
 have ih0 := endonymref6_Copied.mono_l k
 unfold endonymref6_Copied.f
 repeat' first | (with_reducible first | apply ih0 | apply LeO.refl | apply LeO.none | refine LeO.ite ?_ ?_ | refine LeO.bind ?_ (fun _ => ?_)) | apply LeO.none | refine LeO.ite ?_ ?_ | refine LeO.bind ?_ (fun _ => ?_)
theorem endonymref6_Copied.calls (k : Nat) (A0 : Option Addr) (c0 : Nat) (l0 : List (S25)) (r : List (S25)) (w : World) (hr0 : Kd.C k25 w A0 l0.length l0) (hc0 : l0.length ≤ c0) (h : endonymref6_Copied.f k l0 = some r) :
  Calls Tryz.prog 27 #[.slice A0 l0.length c0] w fun e w' => ∃ v0_ : Value, e = .returned (v0_) ∧ Kd.S k25 25 w' w.heap.size (fun _ => True) v0_ r ∧ Below w.heap.size w w' := by
 have hu25 := Tryz.underlying25
 have HR0 := Aside0.mk hr0
 have HC0 := Aside0.mk hc0
 clear hr0 hc0
 have HB := Aside0.mk (Below.refl w.heap.size w)
 have H : (endonymref6_Copied.l0 k l0 ([] : List (S25)) 0) = some r := h
 clear h
 have H' := Aside0.mk H
 clear H
 go_enter Tryz.func27, Tryz.ntmps27
 go_wp2
 go_loopg [3, 4] k (fun kq v3 v4 w' => ∃ (x3_1 : List (S25)) (x4_1 : Int), v4 = .int .i64 x4_1 ∧ Aside0 (endonymref6_Copied.l0 kq l0 x3_1 x4_1 = some r) ∧ Aside0 (kq ≤ k) ∧ Aside0 (Kd.S k25 25 w' w.heap.size (fun _ => True) v3 x3_1) ∧ Aside0 (Below w.heap.size w w'))
 case atStart => exact ⟨(([] : List (S25))), (0), sqE, H', ⟨Nat.le_refl _⟩, ⟨by first | exact Kd.S_nil _ _ _ _ _ | exact Kd.N_nil _ _ _ _ _ | exact Kd.V_nil _ _ _ _ _ | exact Kd.Q_nil _ _ _ _ _ | exact Kd.R_nil _ _ _ _ _⟩, ⟨sqB⟩⟩
 case round =>
  clear H'
  obtain ⟨x3_1, x4_1, rfl, HA, HK1, HO_3, HB⟩ := hrel
  cases gk with
  | zero => exact absurd HA.out (by simp [endonymref6_Copied.l0])
  | succ k1 =>
   have H := HA.out
   clear HA
   simp only [endonymref6_Copied.l0] at H
   by_cases c2 : x4_1 < (l0.length : Int)
   case neg =>
    rw [if_neg c2] at H
    have c2b0 := decide_eq_false c2
    clear c2
    obtain rfl := Option.some.inj H
    go_wp2
    go_ret
    exact ⟨_, sqE', by (with_reducible repeat (first | apply Kd.S_alloc | apply Kd.S_drewN | apply Kd.S_drew)); exact HO_3.out, sqB⟩
   rw [if_pos c2] at H
   have c2b0 := decide_eq_true c2
   clear c2
   by_cases c3 : 0 ≤ x4_1
   case neg => rw [if_neg c3] at H; exact absurd H (by simp)
   rw [if_pos c3] at H
   have c3b0 := decide_eq_true c3
   clear c3
   by_cases c4 : ([] : List Int).length + ((rd_T25 l0 x4_1).f4).length < 35184372088832
   case neg => rw [if_neg c4] at H; exact absurd H (by simp)
   rw [if_pos c4] at H
   have LMc4 := Aside0.mk c4
   clear c4
   obtain ⟨y104, hy104⟩ : ∃ y_ : List Int, y_ = (([] : List Int) ++ ((rd_T25 l0 x4_1).f4)) := ⟨_, rfl⟩
   replace H : (if x3_1.length < 1466015503701 then (endonymref6_Copied.l0 k1 l0 (x3_1 ++ [(⟨(rd_T25 l0 x4_1).f0, (rd_T25 l0 x4_1).f1, (rd_T25 l0 x4_1).f2, (rd_T25 l0 x4_1).f3, y104, (rd_T25 l0 x4_1).f5, (rd_T25 l0 x4_1).f6, (rd_T25 l0 x4_1).f7⟩ : S25)]) (wrap64 (x4_1 + 1))) else (none)) = some r := by first | (rw [hy104]; with_reducible exact H) | (have H2_ := (Option.bind_some _ _).symm.trans H; rw [hy104]; with_reducible exact H2_) | (have H2_ := (Option.bind_some _ _).symm.trans H; with_reducible exact H2_) | with_reducible exact H | (rw [hy104]; exact H) | exact H
   have Ny104 := Aside0.mk hy104
   clear hy104
   by_cases c5 : x3_1.length < 1466015503701
   case neg => rw [if_neg c5] at H; exact absurd H (by simp)
   rw [if_pos c5] at H
   have LMc5 := Aside0.mk c5
   clear c5
   obtain ⟨y107, hy107⟩ : ∃ y_ : List (S25), y_ = (x3_1 ++ [(⟨(rd_T25 l0 x4_1).f0, (rd_T25 l0 x4_1).f1, (rd_T25 l0 x4_1).f2, (rd_T25 l0 x4_1).f3, y104, (rd_T25 l0 x4_1).f5, (rd_T25 l0 x4_1).f6, (rd_T25 l0 x4_1).f7⟩ : S25)]) := ⟨_, rfl⟩
   replace H : (endonymref6_Copied.l0 k1 l0 y107 (wrap64 (x4_1 + 1))) = some r := by first | (rw [hy107]; with_reducible exact H) | (have H2_ := (Option.bind_some _ _).symm.trans H; rw [hy107]; with_reducible exact H2_) | (have H2_ := (Option.bind_some _ _).symm.trans H; with_reducible exact H2_) | with_reducible exact H | (rw [hy107]; exact H) | exact H
   have Ny107 := Aside0.mk hy107
   clear hy107
   have H' := Aside0.mk H
   clear H
   have p101 : 0 ≤ (x4_1 : Int) := sqD
   have q101 : x4_1 < (l0.length : Int) := sqD
   obtain ⟨ad101, A101_4, c101_4, e101, hx101_0, hx101_1, hx101_2, hx101_3, hx101_4, hx101_5, hx101_6, hx101_7, hl101_4, hi101_4⟩ := at_T25b HR0.out HB.out x4_1 p101 q101
   cases e101
   have HR101_4 := Aside0.mk hi101_4
   have HC101_4 := Aside0.mk hl101_4
   clear hi101_4 hl101_4
   replace p101 := eq_true p101
   replace q101 := eq_true q101
   go_wp2_with (first | ((with_reducible refine gate_dst (N := 5) rfl ?_); refine box_event ?hg (N := 5) ?hd (cs := #[.int .i64 0, .int .i64 0, .int .i64 0, .int .i64 0, .slice none 0 0, .string (⟨#[]⟩ : ByteArray), .string (⟨#[]⟩ : ByteArray), .float .f64 (0 : Nat)]) (t := 25) ?hr ?_; (case hd => rfl); (case hg => rfl); (case hr => first | (go_simp; done) | (go_simp; rfl)); intro gb102 hg w6 hbox hb; have n0_ := Aside0.mk (Kd.S_below (Kd.S_elderB (by (with_reducible repeat (first | apply Kd.S_alloc | apply Kd.S_drewN | apply Kd.S_drew)); exact HO_3.out) gb102 (Nat.le_of_eq hg.symm)) hb); have n1_ := Aside0.mk (below_step sqB hb); have n2_ := Aside0.mk (hbox); have n3_ := Aside0.mk ((by rw [hg]; exact (below_size sqB) : w.heap.size ≤ gb102)); have n4_ := Aside0.mk ((by rw [hg]; exact (below_size sqB) : w.heap.size ≤ gb102)); clear HO_3; clear HB; have HO_3 := n0_; have HB := n1_; have BK102 := n2_; have GW102 := n3_; have GE102 := n4_; clear n0_ n1_ n2_ n3_ n4_; clear hb hbox hg; obtain ⟨z0, z1, z2, z3, z4, z5, z6, z7, y0, y1, y2, y3, y4, y5, y6, y7⟩ := box8 BK102.out; have p103 : 0 ≤ (x4_1 : Int) := sqD; have q103 : x4_1 < (l0.length : Int) := sqD; obtain ⟨ad103, A103_4, c103_4, e103, hx103_0, hx103_1, hx103_2, hx103_3, hx103_4, hx103_5, hx103_6, hx103_7, hl103_4, hi103_4⟩ := at_T25 HR0.out x4_1 p103 q103; obtain rfl : ad101 = ad103 := (by injection e103); have hn103_0 : ad101.block ≠ gb102 := Nat.ne_of_lt (Nat.lt_of_lt_of_le (by have := World.block_lt_of_cell? _ _ hx103_0; first | rwa [add_block] at this | exact this) GW102.out); have hn103_1 := hn103_0; have hn103_2 := hn103_0; have hn103_3 := hn103_0; have hn103_4 := hn103_0; have hn103_5 := hn103_0; have hn103_6 := hn103_0; have hn103_7 := hn103_0; replace hx103_0 := (HB.out.cell (World.block_lt_of_cell? w _ hx103_0)).trans hx103_0; replace hx103_1 := (HB.out.cell (World.block_lt_of_cell? w _ hx103_1)).trans hx103_1; replace hx103_2 := (HB.out.cell (World.block_lt_of_cell? w _ hx103_2)).trans hx103_2; replace hx103_3 := (HB.out.cell (World.block_lt_of_cell? w _ hx103_3)).trans hx103_3; replace hx103_4 := (HB.out.cell (World.block_lt_of_cell? w _ hx103_4)).trans hx103_4; replace hx103_5 := (HB.out.cell (World.block_lt_of_cell? w _ hx103_5)).trans hx103_5; replace hx103_6 := (HB.out.cell (World.block_lt_of_cell? w _ hx103_6)).trans hx103_6; replace hx103_7 := (HB.out.cell (World.block_lt_of_cell? w _ hx103_7)).trans hx103_7; have HR103_4 := Aside0.mk hi103_4; have HC103_4 := Aside0.mk hl103_4; clear hi103_4 hl103_4; replace hx103_0 := (cell_far (p := ⟨gb102, 0, none⟩) (by first | (rw [add_block]; exact hn103_0) | (show (Addr.add _ _).block ≠ _; rw [add_block]; exact hn103_0) | exact hn103_0) (.int .i64 ((rd_T25 l0 x4_1).f0))).trans hx103_0; replace hx103_1 := (cell_far (p := ⟨gb102, 0, none⟩) (by first | (rw [add_block]; exact hn103_0) | (show (Addr.add _ _).block ≠ _; rw [add_block]; exact hn103_0) | exact hn103_0) (.int .i64 ((rd_T25 l0 x4_1).f0))).trans hx103_1; replace hx103_2 := (cell_far (p := ⟨gb102, 0, none⟩) (by first | (rw [add_block]; exact hn103_0) | (show (Addr.add _ _).block ≠ _; rw [add_block]; exact hn103_0) | exact hn103_0) (.int .i64 ((rd_T25 l0 x4_1).f0))).trans hx103_2; replace hx103_3 := (cell_far (p := ⟨gb102, 0, none⟩) (by first | (rw [add_block]; exact hn103_0) | (show (Addr.add _ _).block ≠ _; rw [add_block]; exact hn103_0) | exact hn103_0) (.int .i64 ((rd_T25 l0 x4_1).f0))).trans hx103_3; replace hx103_4 := (cell_far (p := ⟨gb102, 0, none⟩) (by first | (rw [add_block]; exact hn103_0) | (show (Addr.add _ _).block ≠ _; rw [add_block]; exact hn103_0) | exact hn103_0) (.int .i64 ((rd_T25 l0 x4_1).f0))).trans hx103_4; replace hx103_5 := (cell_far (p := ⟨gb102, 0, none⟩) (by first | (rw [add_block]; exact hn103_0) | (show (Addr.add _ _).block ≠ _; rw [add_block]; exact hn103_0) | exact hn103_0) (.int .i64 ((rd_T25 l0 x4_1).f0))).trans hx103_5; replace hx103_6 := (cell_far (p := ⟨gb102, 0, none⟩) (by first | (rw [add_block]; exact hn103_0) | (show (Addr.add _ _).block ≠ _; rw [add_block]; exact hn103_0) | exact hn103_0) (.int .i64 ((rd_T25 l0 x4_1).f0))).trans hx103_6; replace hx103_7 := (cell_far (p := ⟨gb102, 0, none⟩) (by first | (rw [add_block]; exact hn103_0) | (show (Addr.add _ _).block ≠ _; rw [add_block]; exact hn103_0) | exact hn103_0) (.int .i64 ((rd_T25 l0 x4_1).f0))).trans hx103_7; replace hx103_0 := (cell_far (p := ⟨gb102, 1, none⟩) (by first | (rw [add_block]; exact hn103_1) | (show (Addr.add _ _).block ≠ _; rw [add_block]; exact hn103_1) | exact hn103_1) (.int .i64 ((rd_T25 l0 x4_1).f1))).trans hx103_0; replace hx103_1 := (cell_far (p := ⟨gb102, 1, none⟩) (by first | (rw [add_block]; exact hn103_1) | (show (Addr.add _ _).block ≠ _; rw [add_block]; exact hn103_1) | exact hn103_1) (.int .i64 ((rd_T25 l0 x4_1).f1))).trans hx103_1; replace hx103_2 := (cell_far (p := ⟨gb102, 1, none⟩) (by first | (rw [add_block]; exact hn103_1) | (show (Addr.add _ _).block ≠ _; rw [add_block]; exact hn103_1) | exact hn103_1) (.int .i64 ((rd_T25 l0 x4_1).f1))).trans hx103_2; replace hx103_3 := (cell_far (p := ⟨gb102, 1, none⟩) (by first | (rw [add_block]; exact hn103_1) | (show (Addr.add _ _).block ≠ _; rw [add_block]; exact hn103_1) | exact hn103_1) (.int .i64 ((rd_T25 l0 x4_1).f1))).trans hx103_3; replace hx103_4 := (cell_far (p := ⟨gb102, 1, none⟩) (by first | (rw [add_block]; exact hn103_1) | (show (Addr.add _ _).block ≠ _; rw [add_block]; exact hn103_1) | exact hn103_1) (.int .i64 ((rd_T25 l0 x4_1).f1))).trans hx103_4; replace hx103_5 := (cell_far (p := ⟨gb102, 1, none⟩) (by first | (rw [add_block]; exact hn103_1) | (show (Addr.add _ _).block ≠ _; rw [add_block]; exact hn103_1) | exact hn103_1) (.int .i64 ((rd_T25 l0 x4_1).f1))).trans hx103_5; replace hx103_6 := (cell_far (p := ⟨gb102, 1, none⟩) (by first | (rw [add_block]; exact hn103_1) | (show (Addr.add _ _).block ≠ _; rw [add_block]; exact hn103_1) | exact hn103_1) (.int .i64 ((rd_T25 l0 x4_1).f1))).trans hx103_6; replace hx103_7 := (cell_far (p := ⟨gb102, 1, none⟩) (by first | (rw [add_block]; exact hn103_1) | (show (Addr.add _ _).block ≠ _; rw [add_block]; exact hn103_1) | exact hn103_1) (.int .i64 ((rd_T25 l0 x4_1).f1))).trans hx103_7; replace hx103_0 := (cell_far (p := ⟨gb102, 2, none⟩) (by first | (rw [add_block]; exact hn103_2) | (show (Addr.add _ _).block ≠ _; rw [add_block]; exact hn103_2) | exact hn103_2) (.int .i64 ((rd_T25 l0 x4_1).f2))).trans hx103_0; replace hx103_1 := (cell_far (p := ⟨gb102, 2, none⟩) (by first | (rw [add_block]; exact hn103_2) | (show (Addr.add _ _).block ≠ _; rw [add_block]; exact hn103_2) | exact hn103_2) (.int .i64 ((rd_T25 l0 x4_1).f2))).trans hx103_1; replace hx103_2 := (cell_far (p := ⟨gb102, 2, none⟩) (by first | (rw [add_block]; exact hn103_2) | (show (Addr.add _ _).block ≠ _; rw [add_block]; exact hn103_2) | exact hn103_2) (.int .i64 ((rd_T25 l0 x4_1).f2))).trans hx103_2; replace hx103_3 := (cell_far (p := ⟨gb102, 2, none⟩) (by first | (rw [add_block]; exact hn103_2) | (show (Addr.add _ _).block ≠ _; rw [add_block]; exact hn103_2) | exact hn103_2) (.int .i64 ((rd_T25 l0 x4_1).f2))).trans hx103_3; replace hx103_4 := (cell_far (p := ⟨gb102, 2, none⟩) (by first | (rw [add_block]; exact hn103_2) | (show (Addr.add _ _).block ≠ _; rw [add_block]; exact hn103_2) | exact hn103_2) (.int .i64 ((rd_T25 l0 x4_1).f2))).trans hx103_4; replace hx103_5 := (cell_far (p := ⟨gb102, 2, none⟩) (by first | (rw [add_block]; exact hn103_2) | (show (Addr.add _ _).block ≠ _; rw [add_block]; exact hn103_2) | exact hn103_2) (.int .i64 ((rd_T25 l0 x4_1).f2))).trans hx103_5; replace hx103_6 := (cell_far (p := ⟨gb102, 2, none⟩) (by first | (rw [add_block]; exact hn103_2) | (show (Addr.add _ _).block ≠ _; rw [add_block]; exact hn103_2) | exact hn103_2) (.int .i64 ((rd_T25 l0 x4_1).f2))).trans hx103_6; replace hx103_7 := (cell_far (p := ⟨gb102, 2, none⟩) (by first | (rw [add_block]; exact hn103_2) | (show (Addr.add _ _).block ≠ _; rw [add_block]; exact hn103_2) | exact hn103_2) (.int .i64 ((rd_T25 l0 x4_1).f2))).trans hx103_7; replace hx103_0 := (cell_far (p := ⟨gb102, 3, none⟩) (by first | (rw [add_block]; exact hn103_3) | (show (Addr.add _ _).block ≠ _; rw [add_block]; exact hn103_3) | exact hn103_3) (.int .i64 ((rd_T25 l0 x4_1).f3))).trans hx103_0; replace hx103_1 := (cell_far (p := ⟨gb102, 3, none⟩) (by first | (rw [add_block]; exact hn103_3) | (show (Addr.add _ _).block ≠ _; rw [add_block]; exact hn103_3) | exact hn103_3) (.int .i64 ((rd_T25 l0 x4_1).f3))).trans hx103_1; replace hx103_2 := (cell_far (p := ⟨gb102, 3, none⟩) (by first | (rw [add_block]; exact hn103_3) | (show (Addr.add _ _).block ≠ _; rw [add_block]; exact hn103_3) | exact hn103_3) (.int .i64 ((rd_T25 l0 x4_1).f3))).trans hx103_2; replace hx103_3 := (cell_far (p := ⟨gb102, 3, none⟩) (by first | (rw [add_block]; exact hn103_3) | (show (Addr.add _ _).block ≠ _; rw [add_block]; exact hn103_3) | exact hn103_3) (.int .i64 ((rd_T25 l0 x4_1).f3))).trans hx103_3; replace hx103_4 := (cell_far (p := ⟨gb102, 3, none⟩) (by first | (rw [add_block]; exact hn103_3) | (show (Addr.add _ _).block ≠ _; rw [add_block]; exact hn103_3) | exact hn103_3) (.int .i64 ((rd_T25 l0 x4_1).f3))).trans hx103_4; replace hx103_5 := (cell_far (p := ⟨gb102, 3, none⟩) (by first | (rw [add_block]; exact hn103_3) | (show (Addr.add _ _).block ≠ _; rw [add_block]; exact hn103_3) | exact hn103_3) (.int .i64 ((rd_T25 l0 x4_1).f3))).trans hx103_5; replace hx103_6 := (cell_far (p := ⟨gb102, 3, none⟩) (by first | (rw [add_block]; exact hn103_3) | (show (Addr.add _ _).block ≠ _; rw [add_block]; exact hn103_3) | exact hn103_3) (.int .i64 ((rd_T25 l0 x4_1).f3))).trans hx103_6; replace hx103_7 := (cell_far (p := ⟨gb102, 3, none⟩) (by first | (rw [add_block]; exact hn103_3) | (show (Addr.add _ _).block ≠ _; rw [add_block]; exact hn103_3) | exact hn103_3) (.int .i64 ((rd_T25 l0 x4_1).f3))).trans hx103_7; replace hx103_0 := (cell_far (p := ⟨gb102, 4, none⟩) (by first | (rw [add_block]; exact hn103_4) | (show (Addr.add _ _).block ≠ _; rw [add_block]; exact hn103_4) | exact hn103_4) (.slice A101_4 ((rd_T25 l0 x4_1).f4).length c101_4)).trans hx103_0; replace hx103_1 := (cell_far (p := ⟨gb102, 4, none⟩) (by first | (rw [add_block]; exact hn103_4) | (show (Addr.add _ _).block ≠ _; rw [add_block]; exact hn103_4) | exact hn103_4) (.slice A101_4 ((rd_T25 l0 x4_1).f4).length c101_4)).trans hx103_1; replace hx103_2 := (cell_far (p := ⟨gb102, 4, none⟩) (by first | (rw [add_block]; exact hn103_4) | (show (Addr.add _ _).block ≠ _; rw [add_block]; exact hn103_4) | exact hn103_4) (.slice A101_4 ((rd_T25 l0 x4_1).f4).length c101_4)).trans hx103_2; replace hx103_3 := (cell_far (p := ⟨gb102, 4, none⟩) (by first | (rw [add_block]; exact hn103_4) | (show (Addr.add _ _).block ≠ _; rw [add_block]; exact hn103_4) | exact hn103_4) (.slice A101_4 ((rd_T25 l0 x4_1).f4).length c101_4)).trans hx103_3; replace hx103_4 := (cell_far (p := ⟨gb102, 4, none⟩) (by first | (rw [add_block]; exact hn103_4) | (show (Addr.add _ _).block ≠ _; rw [add_block]; exact hn103_4) | exact hn103_4) (.slice A101_4 ((rd_T25 l0 x4_1).f4).length c101_4)).trans hx103_4; replace hx103_5 := (cell_far (p := ⟨gb102, 4, none⟩) (by first | (rw [add_block]; exact hn103_4) | (show (Addr.add _ _).block ≠ _; rw [add_block]; exact hn103_4) | exact hn103_4) (.slice A101_4 ((rd_T25 l0 x4_1).f4).length c101_4)).trans hx103_5; replace hx103_6 := (cell_far (p := ⟨gb102, 4, none⟩) (by first | (rw [add_block]; exact hn103_4) | (show (Addr.add _ _).block ≠ _; rw [add_block]; exact hn103_4) | exact hn103_4) (.slice A101_4 ((rd_T25 l0 x4_1).f4).length c101_4)).trans hx103_6; replace hx103_7 := (cell_far (p := ⟨gb102, 4, none⟩) (by first | (rw [add_block]; exact hn103_4) | (show (Addr.add _ _).block ≠ _; rw [add_block]; exact hn103_4) | exact hn103_4) (.slice A101_4 ((rd_T25 l0 x4_1).f4).length c101_4)).trans hx103_7; replace hx103_0 := (cell_far (p := ⟨gb102, 5, none⟩) (by first | (rw [add_block]; exact hn103_5) | (show (Addr.add _ _).block ≠ _; rw [add_block]; exact hn103_5) | exact hn103_5) (.string ((rd_T25 l0 x4_1).f5))).trans hx103_0; replace hx103_1 := (cell_far (p := ⟨gb102, 5, none⟩) (by first | (rw [add_block]; exact hn103_5) | (show (Addr.add _ _).block ≠ _; rw [add_block]; exact hn103_5) | exact hn103_5) (.string ((rd_T25 l0 x4_1).f5))).trans hx103_1; replace hx103_2 := (cell_far (p := ⟨gb102, 5, none⟩) (by first | (rw [add_block]; exact hn103_5) | (show (Addr.add _ _).block ≠ _; rw [add_block]; exact hn103_5) | exact hn103_5) (.string ((rd_T25 l0 x4_1).f5))).trans hx103_2; replace hx103_3 := (cell_far (p := ⟨gb102, 5, none⟩) (by first | (rw [add_block]; exact hn103_5) | (show (Addr.add _ _).block ≠ _; rw [add_block]; exact hn103_5) | exact hn103_5) (.string ((rd_T25 l0 x4_1).f5))).trans hx103_3; replace hx103_4 := (cell_far (p := ⟨gb102, 5, none⟩) (by first | (rw [add_block]; exact hn103_5) | (show (Addr.add _ _).block ≠ _; rw [add_block]; exact hn103_5) | exact hn103_5) (.string ((rd_T25 l0 x4_1).f5))).trans hx103_4; replace hx103_5 := (cell_far (p := ⟨gb102, 5, none⟩) (by first | (rw [add_block]; exact hn103_5) | (show (Addr.add _ _).block ≠ _; rw [add_block]; exact hn103_5) | exact hn103_5) (.string ((rd_T25 l0 x4_1).f5))).trans hx103_5; replace hx103_6 := (cell_far (p := ⟨gb102, 5, none⟩) (by first | (rw [add_block]; exact hn103_5) | (show (Addr.add _ _).block ≠ _; rw [add_block]; exact hn103_5) | exact hn103_5) (.string ((rd_T25 l0 x4_1).f5))).trans hx103_6; replace hx103_7 := (cell_far (p := ⟨gb102, 5, none⟩) (by first | (rw [add_block]; exact hn103_5) | (show (Addr.add _ _).block ≠ _; rw [add_block]; exact hn103_5) | exact hn103_5) (.string ((rd_T25 l0 x4_1).f5))).trans hx103_7; replace hx103_0 := (cell_far (p := ⟨gb102, 6, none⟩) (by first | (rw [add_block]; exact hn103_6) | (show (Addr.add _ _).block ≠ _; rw [add_block]; exact hn103_6) | exact hn103_6) (.string ((rd_T25 l0 x4_1).f6))).trans hx103_0; replace hx103_1 := (cell_far (p := ⟨gb102, 6, none⟩) (by first | (rw [add_block]; exact hn103_6) | (show (Addr.add _ _).block ≠ _; rw [add_block]; exact hn103_6) | exact hn103_6) (.string ((rd_T25 l0 x4_1).f6))).trans hx103_1; replace hx103_2 := (cell_far (p := ⟨gb102, 6, none⟩) (by first | (rw [add_block]; exact hn103_6) | (show (Addr.add _ _).block ≠ _; rw [add_block]; exact hn103_6) | exact hn103_6) (.string ((rd_T25 l0 x4_1).f6))).trans hx103_2; replace hx103_3 := (cell_far (p := ⟨gb102, 6, none⟩) (by first | (rw [add_block]; exact hn103_6) | (show (Addr.add _ _).block ≠ _; rw [add_block]; exact hn103_6) | exact hn103_6) (.string ((rd_T25 l0 x4_1).f6))).trans hx103_3; replace hx103_4 := (cell_far (p := ⟨gb102, 6, none⟩) (by first | (rw [add_block]; exact hn103_6) | (show (Addr.add _ _).block ≠ _; rw [add_block]; exact hn103_6) | exact hn103_6) (.string ((rd_T25 l0 x4_1).f6))).trans hx103_4; replace hx103_5 := (cell_far (p := ⟨gb102, 6, none⟩) (by first | (rw [add_block]; exact hn103_6) | (show (Addr.add _ _).block ≠ _; rw [add_block]; exact hn103_6) | exact hn103_6) (.string ((rd_T25 l0 x4_1).f6))).trans hx103_5; replace hx103_6 := (cell_far (p := ⟨gb102, 6, none⟩) (by first | (rw [add_block]; exact hn103_6) | (show (Addr.add _ _).block ≠ _; rw [add_block]; exact hn103_6) | exact hn103_6) (.string ((rd_T25 l0 x4_1).f6))).trans hx103_6; replace hx103_7 := (cell_far (p := ⟨gb102, 6, none⟩) (by first | (rw [add_block]; exact hn103_6) | (show (Addr.add _ _).block ≠ _; rw [add_block]; exact hn103_6) | exact hn103_6) (.string ((rd_T25 l0 x4_1).f6))).trans hx103_7; replace hx103_0 := (cell_far (p := ⟨gb102, 7, none⟩) (by first | (rw [add_block]; exact hn103_7) | (show (Addr.add _ _).block ≠ _; rw [add_block]; exact hn103_7) | exact hn103_7) (.float .f64 ((rd_T25 l0 x4_1).f7))).trans hx103_0; replace hx103_1 := (cell_far (p := ⟨gb102, 7, none⟩) (by first | (rw [add_block]; exact hn103_7) | (show (Addr.add _ _).block ≠ _; rw [add_block]; exact hn103_7) | exact hn103_7) (.float .f64 ((rd_T25 l0 x4_1).f7))).trans hx103_1; replace hx103_2 := (cell_far (p := ⟨gb102, 7, none⟩) (by first | (rw [add_block]; exact hn103_7) | (show (Addr.add _ _).block ≠ _; rw [add_block]; exact hn103_7) | exact hn103_7) (.float .f64 ((rd_T25 l0 x4_1).f7))).trans hx103_2; replace hx103_3 := (cell_far (p := ⟨gb102, 7, none⟩) (by first | (rw [add_block]; exact hn103_7) | (show (Addr.add _ _).block ≠ _; rw [add_block]; exact hn103_7) | exact hn103_7) (.float .f64 ((rd_T25 l0 x4_1).f7))).trans hx103_3; replace hx103_4 := (cell_far (p := ⟨gb102, 7, none⟩) (by first | (rw [add_block]; exact hn103_7) | (show (Addr.add _ _).block ≠ _; rw [add_block]; exact hn103_7) | exact hn103_7) (.float .f64 ((rd_T25 l0 x4_1).f7))).trans hx103_4; replace hx103_5 := (cell_far (p := ⟨gb102, 7, none⟩) (by first | (rw [add_block]; exact hn103_7) | (show (Addr.add _ _).block ≠ _; rw [add_block]; exact hn103_7) | exact hn103_7) (.float .f64 ((rd_T25 l0 x4_1).f7))).trans hx103_5; replace hx103_6 := (cell_far (p := ⟨gb102, 7, none⟩) (by first | (rw [add_block]; exact hn103_7) | (show (Addr.add _ _).block ≠ _; rw [add_block]; exact hn103_7) | exact hn103_7) (.float .f64 ((rd_T25 l0 x4_1).f7))).trans hx103_6; replace hx103_7 := (cell_far (p := ⟨gb102, 7, none⟩) (by first | (rw [add_block]; exact hn103_7) | (show (Addr.add _ _).block ≠ _; rw [add_block]; exact hn103_7) | exact hn103_7) (.float .f64 ((rd_T25 l0 x4_1).f7))).trans hx103_7; clear hn103_0; clear hn103_1; clear hn103_2; clear hn103_3; clear hn103_4; clear hn103_5; clear hn103_6; clear hn103_7; replace p103 := eq_true p103; replace q103 := eq_true q103) | ((with_reducible refine gate_builtin (b := .append) (xs := #[.tmp 17, .tmp 22]) rfl ?_); at_builtin; refine Kd.R_append_rows (Kd.int .i32) (w0 := w) w.heap.size rfl (.tmp 17) (.tmp 22) 22 21 (.int .i32 0) 4 rfl Tryz.underlying22 info21 rfl (by decide) (by omega) (.slice none 0 0) ([] : List Int) ((rd_T25 l0 x4_1).f4) _ _ _ (fun _ => True) (fun _ => False) rfl rfl ?aO ?aR (fun _ _ h => h) (fun _ h => h.elim) ?aF ?aB ?aS ?aL ?_; (case aR => exact Kd.C_below HR103_4.out sqH); (case aB => exact sqH); (case aF => exact (fun _ _ => trivial)); (case aO => exact ((Kd.R_nil _ _ _ _ (fun _ => True)))); (case aS => exact (below_size sqH)); (case aL => have := LMc4.out; omega); intro v105 w8 ho hb hg hat; rw [← Ny104.out] at ho; have n0_ := Aside0.mk (Kd.S_after (Kd.S_apart_nil (by (with_reducible repeat (first | apply Kd.S_alloc | apply Kd.S_drewN | apply Kd.S_drew)); exact (Kd.S_mono (Kd.S_far (p := ⟨gb102, 7, none⟩) (Kd.S_far (p := ⟨gb102, 6, none⟩) (Kd.S_far (p := ⟨gb102, 5, none⟩) (Kd.S_far (p := ⟨gb102, 4, none⟩) (Kd.S_far (p := ⟨gb102, 3, none⟩) (Kd.S_far (p := ⟨gb102, 2, none⟩) (Kd.S_far (p := ⟨gb102, 1, none⟩) (Kd.S_far (p := ⟨gb102, 0, none⟩) (Kd.S_mono HO_3.out (fun k_ hk => (⟨hk, hk.2⟩ : _ ∧ k_ ≠ gb102))) (fun _ hk => hk.2) (.int .i64 ((rd_T25 l0 x4_1).f0))) (fun _ hk => hk.2) (.int .i64 ((rd_T25 l0 x4_1).f1))) (fun _ hk => hk.2) (.int .i64 ((rd_T25 l0 x4_1).f2))) (fun _ hk => hk.2) (.int .i64 ((rd_T25 l0 x4_1).f3))) (fun _ hk => hk.2) (.slice A101_4 ((rd_T25 l0 x4_1).f4).length c101_4)) (fun _ hk => hk.2) (.string ((rd_T25 l0 x4_1).f5))) (fun _ hk => hk.2) (.string ((rd_T25 l0 x4_1).f6))) (fun _ hk => hk.2) (.float .f64 ((rd_T25 l0 x4_1).f7))) (fun _ h_ => h_.1)))) hg hat); have n1_ := Aside0.mk (blk_grown (g := gb102) (o := .cells #[.int .i64 ((rd_T25 l0 x4_1).f0), .int .i64 ((rd_T25 l0 x4_1).f1), .int .i64 ((rd_T25 l0 x4_1).f2), .int .i64 ((rd_T25 l0 x4_1).f3), .slice A101_4 ((rd_T25 l0 x4_1).f4).length c101_4, .string ((rd_T25 l0 x4_1).f5), .string ((rd_T25 l0 x4_1).f6), .float .f64 ((rd_T25 l0 x4_1).f7)] 25 (0, 0)) (by (with_reducible repeat (first | refine blk_drewN ?_ _ | refine blk_drew ?_ | refine blk_alloc ?_ _)); refine blk_put (cs := #[.int .i64 ((rd_T25 l0 x4_1).f0), .int .i64 ((rd_T25 l0 x4_1).f1), .int .i64 ((rd_T25 l0 x4_1).f2), .int .i64 ((rd_T25 l0 x4_1).f3), .slice A101_4 ((rd_T25 l0 x4_1).f4).length c101_4, .string ((rd_T25 l0 x4_1).f5), .string ((rd_T25 l0 x4_1).f6), .float .f64 (0 : Nat)]) ?_ 7 _ rfl; (with_reducible repeat (first | refine blk_drewN ?_ _ | refine blk_drew ?_ | refine blk_alloc ?_ _)); refine blk_put (cs := #[.int .i64 ((rd_T25 l0 x4_1).f0), .int .i64 ((rd_T25 l0 x4_1).f1), .int .i64 ((rd_T25 l0 x4_1).f2), .int .i64 ((rd_T25 l0 x4_1).f3), .slice A101_4 ((rd_T25 l0 x4_1).f4).length c101_4, .string ((rd_T25 l0 x4_1).f5), .string (⟨#[]⟩ : ByteArray), .float .f64 (0 : Nat)]) ?_ 6 _ rfl; (with_reducible repeat (first | refine blk_drewN ?_ _ | refine blk_drew ?_ | refine blk_alloc ?_ _)); refine blk_put (cs := #[.int .i64 ((rd_T25 l0 x4_1).f0), .int .i64 ((rd_T25 l0 x4_1).f1), .int .i64 ((rd_T25 l0 x4_1).f2), .int .i64 ((rd_T25 l0 x4_1).f3), .slice A101_4 ((rd_T25 l0 x4_1).f4).length c101_4, .string (⟨#[]⟩ : ByteArray), .string (⟨#[]⟩ : ByteArray), .float .f64 (0 : Nat)]) ?_ 5 _ rfl; (with_reducible repeat (first | refine blk_drewN ?_ _ | refine blk_drew ?_ | refine blk_alloc ?_ _)); refine blk_put (cs := #[.int .i64 ((rd_T25 l0 x4_1).f0), .int .i64 ((rd_T25 l0 x4_1).f1), .int .i64 ((rd_T25 l0 x4_1).f2), .int .i64 ((rd_T25 l0 x4_1).f3), .slice none 0 0, .string (⟨#[]⟩ : ByteArray), .string (⟨#[]⟩ : ByteArray), .float .f64 (0 : Nat)]) ?_ 4 _ rfl; (with_reducible repeat (first | refine blk_drewN ?_ _ | refine blk_drew ?_ | refine blk_alloc ?_ _)); refine blk_put (cs := #[.int .i64 ((rd_T25 l0 x4_1).f0), .int .i64 ((rd_T25 l0 x4_1).f1), .int .i64 ((rd_T25 l0 x4_1).f2), .int .i64 0, .slice none 0 0, .string (⟨#[]⟩ : ByteArray), .string (⟨#[]⟩ : ByteArray), .float .f64 (0 : Nat)]) ?_ 3 _ rfl; (with_reducible repeat (first | refine blk_drewN ?_ _ | refine blk_drew ?_ | refine blk_alloc ?_ _)); refine blk_put (cs := #[.int .i64 ((rd_T25 l0 x4_1).f0), .int .i64 ((rd_T25 l0 x4_1).f1), .int .i64 0, .int .i64 0, .slice none 0 0, .string (⟨#[]⟩ : ByteArray), .string (⟨#[]⟩ : ByteArray), .float .f64 (0 : Nat)]) ?_ 2 _ rfl; (with_reducible repeat (first | refine blk_drewN ?_ _ | refine blk_drew ?_ | refine blk_alloc ?_ _)); refine blk_put (cs := #[.int .i64 ((rd_T25 l0 x4_1).f0), .int .i64 0, .int .i64 0, .int .i64 0, .slice none 0 0, .string (⟨#[]⟩ : ByteArray), .string (⟨#[]⟩ : ByteArray), .float .f64 (0 : Nat)]) ?_ 1 _ rfl; (with_reducible repeat (first | refine blk_drewN ?_ _ | refine blk_drew ?_ | refine blk_alloc ?_ _)); refine blk_put (cs := #[.int .i64 0, .int .i64 0, .int .i64 0, .int .i64 0, .slice none 0 0, .string (⟨#[]⟩ : ByteArray), .string (⟨#[]⟩ : ByteArray), .float .f64 (0 : Nat)]) ?_ 0 _ rfl; (with_reducible repeat (first | refine blk_drewN ?_ _ | refine blk_drew ?_ | refine blk_alloc ?_ _)); exact BK102.out) hg (by simp [Value.ownBlock])); have n2_ := Aside0.mk (hb); have n3_ := Aside0.mk (ho); clear HO_3; clear BK102; clear HB; have HO_3 := n0_; have BK102 := n1_; have HB := n2_; have HO106 := n3_; clear n0_ n1_ n2_ n3_; clear ho hb hg hat; obtain ⟨Ao9, co9, eo9⟩ := Kd.R_slice HO106.out; subst eo9; obtain ⟨z0, z1, z2, z3, z4, z5, z6, z7, y0, y1, y2, y3, y4, y5, y6, y7⟩ := box8 BK102.out) | ((with_reducible refine gate_store (t := 22) (p := 24) rfl ?_); refine store_event (t := 22) (p := 24) (v := ?vo_w11) (w1 := (w8.setCell ⟨gb102, 4, none⟩ (.slice Ao9 y104.length co9))) ?hg ?ho ?hn ?hr ?_; (case ho => rfl); (case hg => rfl); (case hn => rfl); (case hr => first | (go_simp; done) | (go_simp; rfl)); intro w11 hw; have n0_ : Aside0 (Kd.S k25 25 w11 w.heap.size (fun k_ => some k_ ≠ (.slice Ao9 y104.length co9 : Value).ownBlock ∧ k_ ≠ gb102) u3 x3_1) := ⟨(by rw [hw]; exact (by (with_reducible repeat (first | apply Kd.S_alloc | apply Kd.S_drewN | apply Kd.S_drew)); exact Kd.S_mono (Kd.S_far (p := ⟨gb102, 4, none⟩) (Kd.S_mono HO_3.out (fun k_ hk => (⟨hk, hk.1.2⟩ : _ ∧ k_ ≠ gb102))) (fun _ hk => hk.2) (.slice Ao9 y104.length co9)) (fun _ hk => ⟨hk.1.2, hk.1.1.2⟩)))⟩; have n1_ : Aside0 (Kd.R (Kd.int .i32) 21 w11 w.heap.size (fun _ => True) (.slice Ao9 y104.length co9) y104) := ⟨(by rw [hw]; exact (by (with_reducible repeat (first | apply Kd.R_alloc | apply Kd.R_drewN | apply Kd.R_drew)); exact Kd.R_mono (Kd.R_far (p := ⟨gb102, 4, none⟩) (Kd.R_types HO106.out BK102.out (by decide)) (fun _ hk => hk.2) (.slice Ao9 y104.length co9)) (fun _ hk => trivial)))⟩; have n2_ : Aside0 (w11.heap[gb102]? = some (.cells #[.int .i64 ((rd_T25 l0 x4_1).f0), .int .i64 ((rd_T25 l0 x4_1).f1), .int .i64 ((rd_T25 l0 x4_1).f2), .int .i64 ((rd_T25 l0 x4_1).f3), .slice Ao9 y104.length co9, .string ((rd_T25 l0 x4_1).f5), .string ((rd_T25 l0 x4_1).f6), .float .f64 ((rd_T25 l0 x4_1).f7)] 25 (0, 0))) := ⟨(by rw [hw]; exact (by (with_reducible repeat (first | refine blk_drewN ?_ _ | refine blk_drew ?_ | refine blk_alloc ?_ _)); refine blk_put (cs := #[.int .i64 ((rd_T25 l0 x4_1).f0), .int .i64 ((rd_T25 l0 x4_1).f1), .int .i64 ((rd_T25 l0 x4_1).f2), .int .i64 ((rd_T25 l0 x4_1).f3), .slice A101_4 ((rd_T25 l0 x4_1).f4).length c101_4, .string ((rd_T25 l0 x4_1).f5), .string ((rd_T25 l0 x4_1).f6), .float .f64 ((rd_T25 l0 x4_1).f7)]) ?_ 4 _ rfl; (with_reducible repeat (first | refine blk_drewN ?_ _ | refine blk_drew ?_ | refine blk_alloc ?_ _)); exact BK102.out))⟩; have n3_ : Aside0 (Below w.heap.size w w11) := ⟨(by rw [hw]; exact sqH)⟩; clear hw; clear HO_3; clear HO106; clear BK102; clear HB; have HO_3 := n0_; have HO106 := n1_; have BK102 := n2_; have HB := n3_; clear n0_ n1_ n2_ n3_; obtain ⟨z0, z1, z2, z3, z4, z5, z6, z7, y0, y1, y2, y3, y4, y5, y6, y7⟩ := box8 BK102.out) | ((with_reducible refine gate_builtin (b := .append) (xs := #[.tmp 25, .tmp 27]) rfl ?_); at_builtin; refine Kd.S_append k25 (w0 := w) w.heap.size rfl (.tmp 25) (.tmp 27) 26 25 (.agg #[(.int .i64 0), (.int .i64 0), (.int .i64 0), (.int .i64 0), (.slice none 0 0), (.string ⟨#[]⟩), (.string ⟨#[]⟩), (.float .f64 0)]) 96 rfl Tryz.underlying26 info25 rfl (by decide) (by omega) u3 x3_1 (⟨(rd_T25 l0 x4_1).f0, (rd_T25 l0 x4_1).f1, (rd_T25 l0 x4_1).f2, (rd_T25 l0 x4_1).f3, y104, (rd_T25 l0 x4_1).f5, (rd_T25 l0 x4_1).f6, (rd_T25 l0 x4_1).f7⟩ : S25) [.int .i64 ((rd_T25 l0 x4_1).f0), .int .i64 ((rd_T25 l0 x4_1).f1), .int .i64 ((rd_T25 l0 x4_1).f2), .int .i64 ((rd_T25 l0 x4_1).f3), .slice Ao9 y104.length co9, .string ((rd_T25 l0 x4_1).f5), .string ((rd_T25 l0 x4_1).f6), .float .f64 ((rd_T25 l0 x4_1).f7)] (fun k_ => k_ ≠ gb102) (fun k_ => some k_ = (.slice Ao9 y104.length co9 : Value).ownBlock) rfl rfl ?aP (fun k_ hk_ => ((Kd.R_mono (ok' := fun k_ => ((fun k_ => k_ ≠ gb102)) k_ ∧ some k_ ≠ (u3 : Value).ownBlock) (Kd.R_types (Kd.R_apart' (HO106.out) (Kd.S_typed HO_3.out) (by decide)) BK102.out (by decide)) (fun k_ hk => ⟨hk.2, hk.1.2⟩))).1 k_ hk_.symm) ?aF ?aO ?aB ?aS ?aL ?_; (case aP => exact k25_mkM _ _ _ (⟨(rd_T25 l0 x4_1).f0, (rd_T25 l0 x4_1).f1, (rd_T25 l0 x4_1).f2, (rd_T25 l0 x4_1).f3, y104, (rd_T25 l0 x4_1).f5, (rd_T25 l0 x4_1).f6, (rd_T25 l0 x4_1).f7⟩ : S25) (Kd.R_mono (Kd.R_tight rfl (Kd.R_mono (ok' := fun k_ => ((fun k_ => k_ ≠ gb102)) k_ ∧ some k_ ≠ (u3 : Value).ownBlock) (Kd.R_types (Kd.R_apart' (HO106.out) (Kd.S_typed HO_3.out) (by decide)) BK102.out (by decide)) (fun k_ hk => ⟨hk.2, hk.1.2⟩))) (fun _ h_ => h_))); (case aB => exact sqH); (case aF => exact (fun k_ hk => Kd.freshB (g := gb102) (o := .cells #[.int .i64 ((rd_T25 l0 x4_1).f0), .int .i64 ((rd_T25 l0 x4_1).f1), .int .i64 ((rd_T25 l0 x4_1).f2), .int .i64 ((rd_T25 l0 x4_1).f3), .slice Ao9 y104.length co9, .string ((rd_T25 l0 x4_1).f5), .string ((rd_T25 l0 x4_1).f6), .float .f64 ((rd_T25 l0 x4_1).f7)] 25 (0, 0)) (sqK BK102.out) k_ hk)); (case aO => exact (by (with_reducible repeat (first | apply Kd.S_alloc | apply Kd.S_drewN | apply Kd.S_drew)); exact Kd.S_mono HO_3.out (fun k_ hk => ⟨hk.2, fun e_ => hk.1 e_⟩))); (case aS => exact (below_size sqH)); (case aL => have := LMc5.out; omega); intro v108 w13 ho hb hg hat; rw [← Ny107.out] at ho; have n0_ := Aside0.mk (blk_grown (g := gb102) (o := .cells #[.int .i64 ((rd_T25 l0 x4_1).f0), .int .i64 ((rd_T25 l0 x4_1).f1), .int .i64 ((rd_T25 l0 x4_1).f2), .int .i64 ((rd_T25 l0 x4_1).f3), .slice Ao9 y104.length co9, .string ((rd_T25 l0 x4_1).f5), .string ((rd_T25 l0 x4_1).f6), .float .f64 ((rd_T25 l0 x4_1).f7)] 25 (0, 0)) (sqK BK102.out) hg (Kd.S_away HO_3.out (fun _ hk => hk.2))); have n1_ := Aside0.mk (hb); have n2_ := Aside0.mk (ho); clear BK102; clear HB; clear HO_3; clear HO106; have BK102 := n0_; have HB := n1_; have HO109 := n2_; clear n0_ n1_ n2_; clear ho hb hg hat))
   go_roundg k1
   case measure => have := HK1.out; omega
   case rel => exact ⟨(y107), (wrap64 (x4_1 + 1)), sqE, H', ⟨by have := HK1.out; omega⟩, ⟨by (with_reducible repeat (first | apply Kd.S_alloc | apply Kd.S_drewN | apply Kd.S_drew)); exact Kd.S_mono HO109.out (fun _ hk => trivial)⟩, ⟨sqH⟩⟩
open Classical in
noncomputable def endonymlaw6_few.f (k : Nat) (l0 : List (S25)) (a1 : Int) : Option ((List (S25))) := if (∀ x ∈ l0, x.f4.length < 1000000000000) ∧ a1 ≤ 1000 then (if 0 ≤ (mn (l0.length : Int) a1) then (if (mn (l0.length : Int) a1) ≤ (l0.length : Int) then ((endonymref6_Copied.f k (l0.take ((mn (l0.length : Int) a1) : Int).toNat)).bind fun t114 => (some t114)) else (none)) else (none)) else none
theorem endonymlaw6_few.mono : ∀ a0 a1 k, LeO (endonymlaw6_few.f k a0 a1) (endonymlaw6_few.f (k + 1) a0 a1) := by
 intro a0 a1 k
 unfold endonymlaw6_few.f
 repeat' first | (with_reducible first | apply endonymref6_Copied.mono | apply LeO.refl | apply LeO.none | refine LeO.ite ?_ ?_ | refine LeO.bind ?_ (fun _ => ?_)) | apply LeO.none | refine LeO.ite ?_ ?_ | refine LeO.bind ?_ (fun _ => ?_)
/-- few's list: two records behind its end, and behind each record's list two numbers. -/
def FewRoom (w : World) (v : Value) (xs : List S25) : Prop :=
 ∃ g c, v = .slice (some ⟨g, 0, none⟩) xs.length c ∧ xs.length + 2 ≤ c ∧ w.cell? ⟨g, xs.length * 8, none⟩ = some (.int .i64 (-7)) ∧ w.cell? ⟨g, (xs.length + 1) * 8, none⟩ = some (.int .i64 (-8)) ∧
  ∀ j x, xs[j]? = some x → ∃ A c', w.cell? ⟨g, j * 8 + 4, none⟩ = some (.slice A x.f4.length c') ∧ Rm.Room w (.slice A x.f4.length c') x.f4.length [.int .i32 (-7), .int .i32 (-8)]
theorem FewRoom.below {w w1 : World} {v : Value} {xs : List S25} (h : FewRoom w v xs) (hb : Below w.heap.size w w1) : FewRoom w1 v xs := by
 obtain ⟨g, c, e, hc, h7, h8, hx⟩ := h
 have mv : ∀ {p : Addr} {u : Value}, w.cell? p = some u → w1.cell? p = some u := fun {p u} hu => (hb.cell (World.block_lt_of_cell? w _ hu)).trans hu
 exact ⟨g, c, e, hc, mv h7, mv h8, fun j x hj => by
  obtain ⟨A, c', h1, h2⟩ := hx j x hj
  exact ⟨A, c', mv h1, h2.below hb⟩⟩
theorem FewRoom.alloc {w : World} {v : Value} {xs : List S25} (h : FewRoom w v xs) (o : Obj) : FewRoom (w.alloc o) v xs := h.below (below_alloc (Below.refl _ _) o)
theorem FewRoom.drew {w : World} {v : Value} {xs : List S25} (h : FewRoom w v xs) : FewRoom w.drew v xs := h.below (below_drew (Below.refl _ _))
theorem FewRoom.drewN {w : World} {v : Value} {xs : List S25} (h : FewRoom w v xs) (m : Nat) : FewRoom (w.drewN m) v xs := h.below (pw_below_drewN (Below.refl _ _) m)
/-- few's list, as it is handed back. -/
def FewS (w : World) (base : Nat) (v : Value) (xs : List S25) : Prop := Kd.S k25 25 w base (fun _ => True) v xs ∧ FewRoom w v xs
theorem FewS_below {w w1 : World} {base : Nat} {v : Value} {xs : List S25} (h : FewS w base v xs) (hb : Below w.heap.size w w1) : FewS w1 base v xs := ⟨Kd.S_below h.1 hb, h.2.below hb⟩
theorem FewS_alloc {w : World} {base : Nat} {v : Value} {xs : List S25} (h : FewS w base v xs) (o : Obj) : FewS (w.alloc o) base v xs := ⟨Kd.S_alloc h.1 o, h.2.alloc o⟩
theorem FewS_drew {w : World} {base : Nat} {v : Value} {xs : List S25} (h : FewS w base v xs) : FewS w.drew base v xs := ⟨Kd.S_drew h.1, h.2.drew⟩
theorem FewS_drewN {w : World} {base : Nat} {v : Value} {xs : List S25} (h : FewS w base v xs) (m : Nat) : FewS (w.drewN m) base v xs := ⟨Kd.S_drewN h.1 m, h.2.drewN m⟩
theorem FewS_lower {w : World} {base base' : Nat} {v : Value} {xs : List S25} (h : FewS w base v xs) (hb : base' ≤ base) : FewS w base' v xs := ⟨Kd.S_lower h.1 hb, h.2⟩
def EX7 : List Value := [.int .i32 (-7), .int .i32 (-8)]
/-- a record with a mark: whether the room behind its list is known -/
def kq : Kd (Bool × S25) := Kd.iso (Kd.pair (Kd.int .i64) (Kd.pair (Kd.int .i64) (Kd.pair (Kd.int .i64) (Kd.pair (Kd.int .i64) (Kd.pair (Rm.slackIf 21 (Kd.int .i32) EX7) (Kd.pair Kd.string (Kd.pair Kd.string Kd.flt))))))) (fun p : Bool × S25 => (p.2.f0, p.2.f1, p.2.f2, p.2.f3, (p.1, p.2.f4), p.2.f5, p.2.f6, p.2.f7))
theorem kq_openM {w : World} {base : Nat} {ok : Nat → Prop} {p : Bool × S25} {cs : List Value} (h : kq.M w base ok p cs) : ∃ v4, cs = [.int .i64 p.2.f0, .int .i64 p.2.f1, .int .i64 p.2.f2, .int .i64 p.2.f3, v4, .string p.2.f5, .string p.2.f6, .float .f64 p.2.f7] ∧ (Kd.int .i32).R 21 w base ok v4 p.2.f4 ∧ (p.1 = true → Rm.Room w v4 p.2.f4.length EX7) := by
 obtain ⟨_, _, rfl, rfl, ⟨_, _, rfl, rfl, ⟨_, _, rfl, rfl, ⟨_, _, rfl, rfl, ⟨_, _, rfl, ⟨v4, rfl, g4, hm⟩, ⟨_, _, rfl, rfl, ⟨_, _, rfl, rfl, rfl⟩⟩⟩⟩⟩⟩⟩ := h
 exact ⟨v4, rfl, g4, hm⟩
theorem kq_mkM (w : World) (base : Nat) (ok : Nat → Prop) (p : Bool × S25) {v4 : Value} (g4 : (Kd.int .i32).R 21 w base ok v4 p.2.f4) (hm : p.1 = true → Rm.Room w v4 p.2.f4.length EX7) : kq.M w base ok p [.int .i64 p.2.f0, .int .i64 p.2.f1, .int .i64 p.2.f2, .int .i64 p.2.f3, v4, .string p.2.f5, .string p.2.f6, .float .f64 p.2.f7] := ⟨[.int .i64 p.2.f0], [.int .i64 p.2.f1, .int .i64 p.2.f2, .int .i64 p.2.f3, v4, .string p.2.f5, .string p.2.f6, .float .f64 p.2.f7], rfl, rfl, ⟨[.int .i64 p.2.f1], [.int .i64 p.2.f2, .int .i64 p.2.f3, v4, .string p.2.f5, .string p.2.f6, .float .f64 p.2.f7], rfl, rfl, ⟨[.int .i64 p.2.f2], [.int .i64 p.2.f3, v4, .string p.2.f5, .string p.2.f6, .float .f64 p.2.f7], rfl, rfl, ⟨[.int .i64 p.2.f3], [v4, .string p.2.f5, .string p.2.f6, .float .f64 p.2.f7], rfl, rfl, ⟨[v4], [.string p.2.f5, .string p.2.f6, .float .f64 p.2.f7], rfl, ⟨v4, rfl, g4, hm⟩, ⟨[.string p.2.f5], [.string p.2.f6, .float .f64 p.2.f7], rfl, rfl, ⟨[.string p.2.f6], [.float .f64 p.2.f7], rfl, rfl, rfl⟩⟩⟩⟩⟩⟩⟩
theorem kq_in {e : Nat} {w : World} {base : Nat} {ok : Nat → Prop} {v : Value} {xs : List S25} (h : Kd.S k25 e w base ok v xs) : Kd.S kq e w base ok v (xs.map fun x => (false, x)) :=
 Rm.S_map (d := k25) (d' := kq) (fun x => (false, x)) rfl (fun w base ok x cs hM => by
  obtain ⟨v4, rfl, g4⟩ := k25_openM hM
  exact kq_mkM w base ok (false, x) g4 (fun hh => by cases hh)) h
theorem kq_out {e : Nat} {w : World} {base : Nat} {ok : Nat → Prop} {v : Value} {ps : List (Bool × S25)} (h : Kd.S kq e w base ok v ps) : Kd.S k25 e w base ok v (ps.map (·.2)) :=
 Rm.S_map (d := kq) (d' := k25) (fun p => p.2) rfl (fun w base ok x cs hM => by
  obtain ⟨v4, rfl, g4, _⟩ := kq_openM hM
  exact k25_mkM w base ok x.2 g4) h
theorem Copied_l0_is : ∀ (k : Nat) (l0 acc : List S25) (i : Nat) (r : List S25), l0.length < 9223372036854775807 → i ≤ l0.length → endonymref6_Copied.l0 k l0 acc (i : Int) = some r → r = acc ++ l0.drop i := by
 intro k
 induction k with
 | zero => intro l0 acc i r _ _ h; cases h
 | succ k ih =>
  intro l0 acc i r hl hi h
  rw [endonymref6_Copied.l0] at h
  by_cases c : (i : Int) < (l0.length : Int)
  ·
   rw [if_pos c, if_pos (by omega)] at h
   split at h
   ·
    split at h
    ·
     rw [show wrap64 ((i : Int) + 1) = ((i + 1 : Nat) : Int) by unfold wrap64; omega] at h
     have hil : i < l0.length := by omega
     have h2 := ih _ _ _ _ hl (by omega) h
     rw [h2, List.append_assoc]
     congr 1
     rw [List.drop_eq_getElem_cons hil]
     show _ :: _ = _
     have e : rd_T25 l0 (i : Int) = l0[i] := by
      unfold rd_T25
      rw [Int.toNat_natCast, List.getD_eq_getElem?_getD, List.getElem?_eq_getElem hil]; rfl
     rw [e]
     rfl
    ·
     cases h
   ·
    cases h
  ·
   rw [if_neg c] at h
   have := Option.some.inj h
   rw [List.drop_eq_nil_of_le (by omega), List.append_nil]
   exact this.symm
theorem Copied_is {k : Nat} {l r : List S25} (hl : l.length < 9223372036854775807) (h : endonymref6_Copied.f k l = some r) : r = l := by
 have := Copied_l0_is k l [] 0 r hl (Nat.zero_le _) h
 simpa using this
theorem set_same {α : Type} (l : List α) (i : Nat) (x : α) (h : l[i]? = some x) : l.set i x = l := by
 apply List.ext_getElem?
 intro j
 by_cases hj : i = j
 ·
  subst hj
  rw [List.getElem?_set_self (List.getElem?_eq_some_iff.1 h).1, h]
 ·
  rw [List.getElem?_set_ne hj]
theorem kq_open {w : World} {p : Bool × S25} {cs : List Value} (h : kq.K w p cs) : ∃ A4 c4, cs = [.int .i64 p.2.f0, .int .i64 p.2.f1, .int .i64 p.2.f2, .int .i64 p.2.f3, .slice A4 p.2.f4.length c4, .string p.2.f5, .string p.2.f6, .float .f64 p.2.f7] ∧ (p.1 = true → Rm.Room w (.slice A4 p.2.f4.length c4) p.2.f4.length EX7) := by
 obtain ⟨_, _, rfl, rfl, ⟨_, _, rfl, rfl, ⟨_, _, rfl, rfl, ⟨_, _, rfl, rfl, ⟨_, _, rfl, ⟨A4, c4, rfl, _, _, hm⟩, ⟨_, _, rfl, rfl, ⟨_, _, rfl, rfl, rfl⟩⟩⟩⟩⟩⟩⟩ := h
 exact ⟨A4, c4, rfl, hm⟩
theorem reads_map {α β : Type} {R : α → List Value → Prop} {R' : β → List Value → Prop} {size : Nat} {w : World} {A : Option Addr} {n : Nat} {xs : List α} {ys : List β} (h : ReadsRow R size w A n xs) (hl : ys.length = xs.length) (hR : ∀ (j : Nat) x y cs, xs[j]? = some x → ys[j]? = some y → R x cs → R' y cs) : ReadsRow R' size w A n ys := by
 obtain ⟨h1, h2, h3⟩ := h
 refine ⟨hl.trans h1, h2, fun hn => ?_⟩
 obtain ⟨ad, e, hc⟩ := h3 hn
 refine ⟨ad, e, fun j y hy => ?_⟩
 have hj : j < xs.length := by rw [← hl]; exact (List.getElem?_eq_some_iff.1 hy).1
 obtain ⟨cs, hcl, hx, hcell⟩ := hc j _ (List.getElem?_eq_getElem hj)
 exact ⟨cs, hcl, hR j _ y cs (List.getElem?_eq_getElem hj) hy hx, hcell⟩
def rec7 (n : Int) : S25 := ⟨n, 0, 0, 0, [], ⟨#[]⟩, ⟨#[]⟩, 0⟩
def cells7 (n : Int) : List Value := [.int .i64 n, .int .i64 0, .int .i64 0, .int .i64 0, .slice none 0 0, .string ⟨#[]⟩, .string ⟨#[]⟩, .float .f64 0]
theorem kq_rec7 (n : Int) (w : World) (base : Nat) (ok : Nat → Prop) : kq.M w base ok (false, rec7 n) (cells7 n) := kq_mkM w base ok (false, rec7 n) (v4 := .slice none 0 0) (Kd.R_nil _ _ _ _ _) (fun h => by cases h)
theorem FewRoom_of {e : Nat} {w : World} {base : Nat} {ok : Nat → Prop} {A : Option Addr} {c : Nat} {ps : List (Bool × S25)} (h : Kd.S kq e w base ok (.slice A (ps.length + 2) c) (ps ++ [(false, rec7 (-7)), (false, rec7 (-8))])) (hm : ∀ (j : Nat) x, ps[j]? = some x → x.1 = true) : FewRoom w (.slice A ps.length c) (ps.map (·.2)) := by
 obtain ⟨h1, h2, h3⟩ := Kd.S_reads' h
 obtain ⟨A', c', e', hl, hC⟩ := Kd.S_reads h
 have hlen : (ps ++ [(false, rec7 (-7)), (false, rec7 (-8))]).length = ps.length + 2 := by simp
 obtain ⟨_, _, hrow⟩ := h3
 obtain ⟨ad, e1, hcell⟩ := hrow (by omega)
 subst e1
 obtain ⟨g, rfl⟩ := Kd.R_head (Kd.S_R h)
 have at_ : ∀ (j : Nat) p, (ps ++ [(false, rec7 (-7)), (false, rec7 (-8))])[j]? = some p → ∃ A4 c4, w.cell? ⟨g, j * 8, none⟩ = some (.int .i64 p.2.f0) ∧ w.cell? ⟨g, j * 8 + 4, none⟩ = some (.slice A4 p.2.f4.length c4) ∧ (p.1 = true → Rm.Room w (.slice A4 p.2.f4.length c4) p.2.f4.length EX7) := by
  intro j p hj
  obtain ⟨cs, _, hK, hc⟩ := hcell j p hj
  obtain ⟨A4, c4, rfl, hr⟩ := kq_open hK
  have h0 := hc 0 _ rfl
  have h4 := hc 4 _ rfl
  rw [show kq.sz = 8 from rfl, add_plain] at h0 h4
  exact ⟨A4, c4, h0, h4, hr⟩
 obtain ⟨_, _, h7, _⟩ := at_ ps.length (false, rec7 (-7)) (by rw [List.getElem?_append_right (Nat.le_refl _)]; simp)
 obtain ⟨_, _, h8, _⟩ := at_ (ps.length + 1) (false, rec7 (-8)) (by rw [List.getElem?_append_right (by omega)]; simp)
 refine ⟨g, c, by rw [List.length_map], by rw [List.length_map]; omega, by rw [List.length_map]; exact h7, by rw [List.length_map]; exact h8, fun j x hj => ?_⟩
 rw [List.getElem?_map] at hj
 obtain ⟨p, hp, rfl⟩ := Option.map_eq_some_iff.1 hj
 obtain ⟨A4, c4, _, h4, hr⟩ := at_ j p (by rw [List.getElem?_append_left (List.getElem?_eq_some_iff.1 hp).1]; exact hp)
 exact ⟨A4, c4, h4, hr (hm j p hp)⟩
theorem raw_two (w : World) (base : Nat) (ok : Nat → Prop) (a b : List Value) (ha : a.length = 8) (hb : b.length = 8) (ua : ∀ u ∈ a, u.oneCell' = true) (ub : ∀ u ∈ b, u.oneCell' = true) : Reps ((Kd.raw 8).M w base ok) (Kd.raw 8).sz [a, b] (a ++ b) := by
 show Reps ((Kd.raw 8).M w base ok) 8 [a, b] (a ++ b)
 refine ⟨by simp [ha, hb], fun j p hj => ?_⟩
 match j, hj with
 | 0, hj =>
  obtain rfl : a = p := by simpa using hj
  rw [Nat.zero_mul, List.drop_zero, List.take_left' ha]
  exact ⟨rfl, ha, ua⟩
 | 1, hj =>
  obtain rfl : b = p := by simpa using hj
  rw [Nat.one_mul, List.drop_left' ha, List.take_of_length_le (by omega)]
  exact ⟨rfl, hb, ub⟩
 | j + 2, hj => simp at hj
theorem cut_22 (A : Option Addr) (n m c : Nat) (h : m ≤ n) (hc : n ≤ c) : ∀ W : World, (Instr.slice 22 (.slice A n c) none (some (.int .i64 (m : Int))) none).run Tryz.prog W = .ok (.slice A m c) W := by
 obtain ⟨i0, hi0, _, _, _⟩ := info_parts info21
 intro W
 have := cut_to (P := Tryz.prog) 22 21 .i64 Tryz.underlying22 hi0 A n c (m : Int) (by omega) (by omega) hc W
 rw [Int.toNat_natCast] at this
 exact this
theorem cut_26 (A : Option Addr) (n m c : Nat) (h : m ≤ n) (hc : n ≤ c) : ∀ W : World, (Instr.slice 26 (.slice A n c) none (some (.int .i64 (m : Int))) none).run Tryz.prog W = .ok (.slice A m c) W := by
 obtain ⟨i0, hi0, _, _, _⟩ := info_parts info25
 intro W
 have := cut_to (P := Tryz.prog) 26 25 .i64 Tryz.underlying26 hi0 A n c (m : Int) (by omega) (by omega) hc W
 rw [Int.toNat_natCast] at this
 exact this
theorem endonymlaw6_few.calls (k : Nat) (A0 : Option Addr) (c0 : Nat) (l0 : List (S25)) (a1 : Int) (r : List (S25)) (w : World) (hr0 : Kd.C k25 w A0 l0.length l0) (hc0 : l0.length ≤ c0) (h : endonymlaw6_few.f k l0 a1 = some r) :
  Calls Tryz.prog 14 #[.slice A0 l0.length c0, .int .i64 a1] w fun e w' => ∃ v0_ : Value, e = .returned (v0_) ∧ FewS w' w.heap.size v0_ r ∧ Below w.heap.size w w' := by
 have HR0 := Aside0.mk hr0
 have HC0 := Aside0.mk hc0
 have HB := Aside0.mk (Below.refl w.heap.size w)
 have hm0 : l0.length ≤ 9223372036854775807 := hr0.2.1
 clear hr0 hc0
 unfold endonymlaw6_few.f at h
 by_cases hs : (∀ x ∈ l0, x.f4.length < 1000000000000) ∧ a1 ≤ 1000
 case neg => rw [if_neg hs] at h; cases h
 rw [if_pos hs] at h
 obtain ⟨hsm, ha1⟩ := hs
 obtain ⟨ji3, hji3⟩ : ∃ j_ : Int, (mn (l0.length : Int) a1) = j_ := ⟨_, rfl⟩
 rw [hji3] at h
 have hji3_ : (if a1 < (l0.length : Int) then a1 else (l0.length : Int)) = ji3 := hji3
 by_cases c4 : 0 ≤ ji3
 case neg => rw [if_neg c4] at h; cases h
 rw [if_pos c4] at h
 by_cases c5 : ji3 ≤ (l0.length : Int)
 case neg => rw [if_neg c5] at h; cases h
 rw [if_pos c5] at h
 have hj1000 : ji3 ≤ 1000 := by
  rw [← hji3_]; split <;> omega
 obtain ⟨y110, hy110⟩ : ∃ y_ : List (S25), y_ = (l0.take (ji3 : Int).toNat) := ⟨_, rfl⟩
 rw [← hy110] at h
 have hy7 : y110.length = ((ji3) : Int).toNat := (by rw [hy110, List.length_take]; omega)
 obtain ⟨t114, h6, h⟩ := Option.bind_eq_some_iff.mp h
 obtain rfl := Option.some.inj h
 have ht := Copied_is (by omega) h6
 subst ht
 have A6 := Aside0.mk h6
 have hN : t114.length ≤ 1000 := by omega
 have HSM : Aside0 (∀ x ∈ t114, x.f4.length < 1000000000000) := ⟨fun x hx => hsm x (by rw [hy110] at hx; exact List.mem_of_mem_take hx)⟩
 have Ny110 := Aside0.mk hy110
 clear hy110 h h6 hsm
 have q7 : ((ji3) : Int) ≤ ((l0.length : Int) : Int) := c5
 obtain ⟨i07, hi07, _, hsz7, _⟩ := info_parts info25
 have hroom7 : l0.length ≤ c0 := HC0.out
 have hC7 : Kd.C k25 _ A0 l0.length l0 := HR0.out
 have hcut7 := cut_to (P := Tryz.prog) 26 25 .i64 Tryz.underlying26 hi07 A0 l0.length c0 (ji3) c4 q7 hroom7
 have hr7 := Kd.C_take (m := ((ji3) : Int).toNat) hC7 (by omega)
 rw [← Ny110.out] at hr7
 rw [← hy7] at hcut7
 have HR113 := Aside0.mk hr7
 have HC113 := Aside0.mk (show t114.length ≤ c0 from by omega)
 clear hr7 hC7 hroom7 hi07 hsz7
 have c4b1 := decide_eq_true c4
 have c5b1 := decide_eq_true c5
 replace c4 := eq_true c4
 replace c5 := eq_true c5
 replace q7 := eq_true q7
 have HN := Aside0.mk hN
 clear hN
 clear hy7
 go_enter Tryz.func14, Tryz.ntmps14
 go_wp2_with (first | ((with_reducible refine gate_callee (f := 27) rfl ?_); refine goesL_ (some 15) rfl rfl Tryz.func27 (by kernel_rfl) rfl #[.slice A0 t114.length c0] rfl sqA ?_; (with_reducible refine (endonymref6_Copied.calls k _ _ t114 t114 _ ?side1 ?side2 A6.out).mono ?_); (case side1 => repeat (first | exact HR113.out | (with_reducible refine Kd.C_alloc ?_ _) | (with_reducible refine Kd.C_drewN ?_ _) | (with_reducible refine Kd.C_drew ?_))); (case side2 => exact HC113.out); rintro e w8 ⟨v115, rfl, ho0, hb⟩; refine ⟨_, rfl, ?_⟩; have n0_ := Aside0.mk (Kd.S_lower ho0 (below_size sqB)); have n1_ := Aside0.mk (below_step sqB hb); clear HB; have HO116 := n0_; have HB := n1_; clear n0_ n1_; (try clear hb); (try clear hb2); (try clear hk); (try clear hi); (try clear ho0)))
 obtain ⟨A5, c5_, e5, hl5, _⟩ := Kd.S_reads HO116.out
 subst e5
 have HQ : Aside0 (Kd.S kq 25 w8 w.heap.size (fun _ => True) (.slice A5 t114.length c5_) (t114.map fun x => (false, x))) := ⟨kq_in HO116.out⟩
 clear HO116 hl5
 clear HR113 HC113 A6 hcut7 c4 c5 c4b1 c5b1 q7 hji3 hji3_ HR0 HC0 hm0
 go_loopg [6, 7] (t114.length + 1) (fun kq_ v6 v7 w' => ∃ (i : Nat) (ps : List (Bool × S25)), v6 = .int .i64 (i : Int) ∧ Aside0 (kq_ + i = t114.length + 1 ∧ i ≤ t114.length) ∧ Aside0 (ps.map (·.2) = t114 ∧ ∀ j x, j < i → ps[j]? = some x → x.1 = true) ∧ Aside0 (Kd.S kq 25 w' w.heap.size (fun _ => True) (.slice A5 t114.length c5_) ps) ∧ Aside0 (Below w.heap.size w w'))
 case atStart => exact ⟨0, _, rfl, ⟨by omega, by omega⟩, ⟨by simp [Function.comp_def], fun j x hj => by omega⟩, HQ, HB⟩
 case round =>
  clear HQ HB
  obtain ⟨i, ps, rfl, HK, HP, HQ, HB⟩ := hrel
  obtain ⟨hki, hin⟩ := HK.out
  have hpl : ps.length = t114.length := by have := congrArg List.length HP.out.1; simpa using this
  by_cases hi : i < t114.length
  case neg =>
   have hd : decide ((i : Int) < (t114.length : Int)) = false := decide_eq_false (by omega)
   have hd2 : (i < t114.length) = False := eq_false (by omega)
   have hd3 : decide (i < t114.length) = false := decide_eq_false (by omega)
   have HPL := Aside0.mk hpl
   have HMK : Aside0 (∀ (j : Nat) x, ps[j]? = some x → x.1 = true) := ⟨fun j x hj => HP.out.2 j x (by have := (List.getElem?_eq_some_iff.1 hj).1; omega) hj⟩
   clear hpl hki hin hi
   obtain ⟨f, hRt⟩ := HQ.out
   have HRT := Aside0.mk hRt
   clear hRt HQ
   go_wp2_with (first | ((with_reducible refine gate_dst (N := 46) rfl ?_); refine Kd.R_lit (Kd.raw 8) _ 25 ?hg (N := 46) ?hd (xs := [cells7 (-7), cells7 (-8)]) (inner := cells7 (-7) ++ cells7 (-8)) (ok := fun _ => True) (okp := fun _ => True) ?hr ?hp (fun _ hk => hk) trivial (Below.refl _ _) (Nat.le_refl _) (by simp) ?_; (case hd => rfl); (case hg => rfl); (case hr => first | (go_simp; done) | (go_simp; rfl)); (case hp => exact raw_two _ _ _ _ _ rfl rfl (by intro u hu; simp [cells7] at hu; rcases hu with rfl | rfl | rfl | rfl | rfl <;> rfl) (by intro u hu; simp [cells7] at hu; rcases hu with rfl | rfl | rfl | rfl | rfl <;> rfl)); intro v46 w7 ho8 hb hg_ hnew_; clear hg_ hnew_; obtain ⟨A46, c46, e46⟩ := Kd.R_slice ho8; subst e46; have HR46 := Aside0.mk (Kd.R_reads' ho8).2.2; have HB7 := Aside0.mk (below_step HB.out hb); have HRU := Aside0.mk (Kd.R_below HRT.out hb); clear ho8 HB HRT) | ((with_reducible refine gate_builtin (b := .append) (xs := #[.tmp 43, .tmp 46]) rfl ?_); at_builtin; refine Classical.byContradiction (fun hneg => ?_)))
   refine hneg ?_
   clear hneg
   refine Kd.R_append_rows (Kd.tag f kq) (Rr := fun q cs => q.1 = (false, rec7 (-7)) ∧ cs = cells7 (-7) ∨ q.1 = (false, rec7 (-8)) ∧ cs = cells7 (-8)) (w0 := w) w.heap.size rfl (.tmp 43) (.tmp 46) 26 25 _ 96 rfl Tryz.underlying26 info25 rfl (show 0 < 8 by decide) (by omega) (.slice A5 t114.length c5_) ps.zipIdx [((false, rec7 (-7)), ps.length), ((false, rec7 (-8)), ps.length + 1)] _ _ _ (fun _ => True) (fun _ => False) rfl rfl HRU.out ?aR ?aK (fun _ h => h.elim) (fun _ _ => trivial) HB7.out (below_size HB7.out) ?aL ?_
   (case aR => exact reads_map HR46.out rfl (fun j x y cs hx hy hR => by
       match j, hx, hy with
       | 0, hx, hy => exact Or.inl ⟨by have := Option.some.inj hy; rw [← this], by rw [hR.1]; exact (Option.some.inj hx).symm⟩
       | 1, hx, hy => exact Or.inr ⟨by have := Option.some.inj hy; rw [← this], by rw [hR.1]; exact (Option.some.inj hx).symm⟩
       | j + 2, hx, hy => simp at hx))
   (case aK => rintro ⟨q, j⟩ cs (⟨h1, rfl⟩ | ⟨h1, rfl⟩) <;> (simp only at h1; subst h1; exact kq_rec7 _ _ _ _))
   (case aL => show (ps.zipIdx.length + 2) * 96 ≤ _; rw [List.length_zipIdx, HPL.out]; have := HN.out; omega)
   intro v47 w9 ho hb hg hat
   obtain ⟨A47, c47, e47⟩ := Kd.R_slice ho
   subst e47
   have hz : ps.zipIdx ++ [((false, rec7 (-7)), ps.length), ((false, rec7 (-8)), ps.length + 1)] = (ps ++ [(false, rec7 (-7)), (false, rec7 (-8))]).zipIdx := by rw [List.zipIdx_append]; simp
   rw [hz] at ho
   have hlz : (ps ++ [(false, rec7 (-7)), (false, rec7 (-8))]).zipIdx.length = ps.length + 2 := by simp
   rw [hlz] at ho
   have hS : Kd.S kq 25 w9 w.heap.size (fun _ => True) (.slice A47 (ps.length + 2) c47) (ps ++ [(false, rec7 (-7)), (false, rec7 (-8))]) := ⟨f, ho⟩
   have HF := Aside0.mk (FewRoom_of hS HMK.out)
   have HT := Aside0.mk (kq_out (Kd.S_take (m := ps.length) hS (by simp)))
   have hcap := (Kd.S_reads' hS).2.1
   have hs47 := cut_26 A47 (t114.length + 2) t114.length c47 (by omega) (by rw [← HPL.out]; exact hcap)
   have HB9 := Aside0.mk hb
   clear hS hcap hb hg hat HR46 HRU HB7 ho
   rw [hz, hlz, HPL.out]
   clear hlz hz
   go_wp2
   go_ret
   rw [List.take_left' rfl, HPL.out, HP.out.1] at HT
   rw [HPL.out, HP.out.1] at HF
   exact ⟨_, rfl, ⟨HT.out, HF.out⟩, HB9.out⟩
  case pos =>
   have hd : decide ((i : Int) < (t114.length : Int)) = true := decide_eq_true (by omega)
   cases gk with
   | zero => omega
   | succ k1 =>
   obtain ⟨g, cap, e5, hbase, hglt, _⟩ := Kd.S_form HQ.out (by omega)
   obtain ⟨rfl, _, rfl⟩ : A5 = some ⟨g, 0, none⟩ ∧ _ ∧ c5_ = cap := by simpa using e5
   clear e5
   obtain ⟨oki, c, hcl, hM, hcc, hfr, hoki, hH⟩ := Kd.S_elem HQ.out (false, z25) (i : Int) (by omega) (by omega)
   obtain ⟨p, hp⟩ : ∃ p, ps[i]? = some p := ⟨ps[i], List.getElem?_eq_getElem (by omega)⟩
   have hpd : ps.getD (i : Int).toNat (false, z25) = p := by rw [Int.toNat_natCast, List.getD_eq_getElem?_getD, hp]; rfl
   rw [hpd] at hM
   obtain ⟨v4, rfl, hR, hroom⟩ := kq_openM hM
   obtain ⟨A4, c4, rfl⟩ := Kd.R_slice hR
   have hx4 : World.cell? _ ⟨g, i * 8 + 4, none⟩ = some (Value.slice A4 p.2.f4.length c4) := hcc 4 _ rfl
   have HH := Aside0.mk hH
   have HR4 := Aside0.mk hR
   clear hH hM hR hroom hcl hcc hfr
   have HPL := Aside0.mk hpl; have HPP := Aside0.mk hp; have HI := Aside0.mk hi; have HKI := Aside0.mk hki; have HBS := Aside0.mk hbase; have HOK := Aside0.mk hoki
   clear hpl hp hpd hki hbase hglt hoki
   clear ‹t114.length = ps.length›
   go_wp2_with (first | ((with_reducible refine gate_dst (N := 35) rfl ?_); refine Kd.R_lit (Kd.int .i32) _ 21 ?hg (N := 35) ?hd (xs := ([(-7), (-8)] : List Int)) (inner := [.int .i32 (-7), .int .i32 (-8)]) (ok := fun _ => True) (okp := fun _ => True) ?hr ?hp (fun _ hk => hk) trivial (Below.refl _ _) (Nat.le_refl _) (by simp) ?_; (case hd => rfl); (case hg => rfl); (case hr => first | (go_simp; done) | (go_simp; rfl)); (case hp => exact (Reps.one (show Kd.M (Kd.int .i32) _ _ _ (-7) [.int .i32 (-7)] from rfl) (Reps.one (show Kd.M (Kd.int .i32) _ _ _ (-8) [.int .i32 (-8)] from rfl) (Reps.none _ _)))); intro v35 w7 ho8 hb hg_ hnew_; clear hg_ hnew_; obtain ⟨A35, c35, e35⟩ := Kd.R_slice ho8; subst e35; have HR35 := Aside0.mk (Kd.R_reads' ho8).2.2; have HB7 := Aside0.mk (below_step HB.out hb); have HH7 := Aside0.mk (Kd.H_below HH.out hb); have HR47 := Aside0.mk (Kd.R_below HR4.out hb); clear ho8 HB HH HR4) | ((with_reducible refine gate_builtin (b := .append) (xs := #[.tmp 34, .tmp 35]) rfl ?_); at_builtin; refine Kd.R_append_rows (Kd.int .i32) (w0 := w) w.heap.size rfl (.tmp 34) (.tmp 35) 22 21 (.int .i32 0) 4 rfl Tryz.underlying22 info21 rfl (by decide) (by omega) (.slice A4 p.2.f4.length c4) p.2.f4 ([(-7), (-8)] : List Int) _ _ _ (fun k => oki k ∨ True ∧ w7.heap.size ≤ k) (fun _ => False) rfl rfl ?aO ?aR (fun _ _ h => h) (fun _ h => h.elim) ?aF ?aB ?aS ?aL ?_; (case aO => exact Kd.R_mono HR47.out (fun k hk => Or.inl hk)); (case aR => exact HR35.out); (case aF => exact fun k hk => Or.inr ⟨trivial, hk⟩); (case aB => exact HB7.out); (case aS => exact below_size HB7.out); (case aL => have h1 := HSM.out p.2 (by rw [← HP.out.1]; exact List.mem_map_of_mem (List.mem_of_getElem? HPP.out)); simp only [List.length_cons, List.length_nil]; omega); intro v36 w9 ho hb hg hat; have HH9 := Aside0.mk (Kd.H_grown (Kd.H_widen HH7.out) hg (fun k hk => Or.inl (HR47.out.1 k hk))); clear HH7 hg hat HR35 HR47; obtain ⟨A36, c36, e36⟩ := Kd.R_slice ho; subst e36; have HB9 := Aside0.mk hb; clear hb; have hc36 := (Kd.R_reads' ho).2.1; simp only [List.length_append, List.length_cons, List.length_nil] at hc36; have hs36 := cut_22 A36 (p.2.f4.length + 2) p.2.f4.length c36 (by omega) hc36; clear hc36; have HM9 := Aside0.mk (kq_mkM w9 w.heap.size _ (true, p.2) (v4 := .slice A36 p.2.f4.length c36) (by have h2 := Kd.R_take (m := p.2.f4.length) ho (by simp); rw [List.take_left' rfl] at h2; exact h2) (fun _ => Rm.room_of_R ho (by simp) _ rfl)); clear ho) | ((with_reducible refine gate_store (t := 22) (p := 40) rfl ?_); refine Classical.byContradiction (fun hneg => ?_)))
   refine hneg ?_
   clear hneg
   refine Kd.H_store kq (w0 := w) w.heap.size rfl rfl 22 (.tmp 40) (.tmp 38) rfl 25 (g := g) (n := t114.length) (cap := c5_) (o' := i * 8 + 4) (i : Int) 4 ps (true, p.2) (.slice A36 p.2.f4.length c36) [.slice A36 p.2.f4.length c36] _ _ _ _ rfl rfl rfl rfl (by kernel_rfl) (by simp [Value.oneCell']) HH9.out (by omega) (by have := HI.out; omega) (show 4 + 1 ≤ 8 by decide) HM9.out (fun _ h => h) HB9.out ?_
   intro w1 hS1 hb1 _
   rw [Int.toNat_natCast] at hS1
   have HQ1 := Aside0.mk hS1
   have HB1 := Aside0.mk hb1
   clear hS1 hb1 HH9 HM9 HB9 hs36 hx4
   go_wp2
   go_roundg k1
   case measure => omega
   case rel =>
    refine ⟨i + 1, ps.set i (true, p.2), ?_, ⟨by have := HKI.out; omega, by have := HI.out; omega⟩, ⟨?_, fun j x hj hx => ?_⟩, HQ1, HB1⟩
    ·
     rw [show wrap64 ((i : Int) + 1) = ((i + 1 : Nat) : Int) from by unfold wrap64; have := HI.out; have := HN.out; omega]
    ·
     rw [← HP.out.1, List.map_set]
     exact set_same _ _ _ (by rw [List.getElem?_map, HPP.out]; rfl)
    ·
     by_cases hji : j = i
     ·
      subst hji
      rw [List.getElem?_set_self (by have := HPL.out; have := HI.out; omega)] at hx
      exact (congrArg (·.1) (Option.some.inj hx)).symm
     ·
      rw [List.getElem?_set_ne (Ne.symm hji)] at hx
      exact HP.out.2 j x (by omega) hx
mutual
def table_Family.j0 : Nat → Int → Int → Bool → Option (Int)
 | 0, _, _, _ => none
 | k + 1, x0, x3, x4 => if x4 = true then (some 1) else (if x3 = 6 then (some 2) else (if x3 = 7 then (table_Family.j1 k x0 x3 (x3 == 7)) else (table_Family.j1 k x0 x3 (x3 == 8))))
def table_Family.j1 : Nat → Int → Int → Bool → Option (Int)
 | 0, _, _, _ => none
 | k + 1, x0, x3, x12 => if x12 = true then (some 3) else (if x3 = 9 then (some (wrap64 (x0 - 5))) else (if x3 = 10 then (some (wrap64 (x0 - 5))) else (if x3 = 11 then (some (wrap64 (x0 - 5))) else (if x3 = 12 then (some (wrap64 (x0 - 5))) else (if x3 = 13 then (some (wrap64 (x0 - 5))) else (if x3 = 14 then (some (wrap64 (x0 - 5))) else (if x3 = 15 then (some (wrap64 (x0 - 5))) else (some 0))))))))
end
def table_Family.f (k : Nat) (a0 : Int) : Option (Int) := if a0 = 1 then (table_Family.j0 k a0 a0 (a0 == 1)) else (if a0 = 2 then (table_Family.j0 k a0 a0 (a0 == 2)) else (if a0 = 3 then (table_Family.j0 k a0 a0 (a0 == 3)) else (if a0 = 4 then (table_Family.j0 k a0 a0 (a0 == 4)) else (table_Family.j0 k a0 a0 (a0 == 5)))))
theorem table_Family.mono_l : ∀ k, (∀ y0 y1 y2, LeO (table_Family.j0 k y0 y1 y2) (table_Family.j0 (k + 1) y0 y1 y2)) ∧ (∀ y0 y1 y2, LeO (table_Family.j1 k y0 y1 y2) (table_Family.j1 (k + 1) y0 y1 y2))
 | 0 => ⟨fun _ _ _ r h => by simp [table_Family.j0] at h, fun _ _ _ r h => by simp [table_Family.j1] at h⟩
 | k + 1 => by
  obtain ⟨ih0, ih1⟩ := table_Family.mono_l k
  refine ⟨?_, ?_⟩
  ·intro y0 y1 y2
   unfold table_Family.j0
   repeat' first | (with_reducible first | apply ih0 | apply ih1 | apply LeO.refl | apply LeO.none | refine LeO.ite ?_ ?_ | refine LeO.bind ?_ (fun _ => ?_)) | apply LeO.none | refine LeO.ite ?_ ?_ | refine LeO.bind ?_ (fun _ => ?_)
  intro y0 y1 y2
  unfold table_Family.j1
  repeat' first | (with_reducible first | apply ih0 | apply ih1 | apply LeO.refl | apply LeO.none | refine LeO.ite ?_ ?_ | refine LeO.bind ?_ (fun _ => ?_)) | apply LeO.none | refine LeO.ite ?_ ?_ | refine LeO.bind ?_ (fun _ => ?_)
theorem table_Family.mono : ∀ a0 k, LeO (table_Family.f k a0) (table_Family.f (k + 1) a0) := by
 intro a0 k
 obtain ⟨ih0, ih1⟩ := table_Family.mono_l k
 unfold table_Family.f
 repeat' first | (with_reducible first | apply ih0 | apply ih1 | apply LeO.refl | apply LeO.none | refine LeO.ite ?_ ?_ | refine LeO.bind ?_ (fun _ => ?_)) | apply LeO.none | refine LeO.ite ?_ ?_ | refine LeO.bind ?_ (fun _ => ?_)
theorem table_Family.calls (k : Nat) (a0 : Int) (r : Int) (w : World) (h : table_Family.f k a0 = some r) :
  Calls Tryz.prog 32 #[.int .i64 a0] w fun e w' => e = .returned (.int .i64 r) ∧ Drawn0 w w' := by
 have H : (if a0 = 1 then (table_Family.j0 k a0 a0 (a0 == 1)) else (if a0 = 2 then (table_Family.j0 k a0 a0 (a0 == 2)) else (if a0 = 3 then (table_Family.j0 k a0 a0 (a0 == 3)) else (if a0 = 4 then (table_Family.j0 k a0 a0 (a0 == 4)) else (table_Family.j0 k a0 a0 (a0 == 5)))))) = some r := h
 clear h
 have HC2 := Aside0.mk H
 clear H
 go_enter Tryz.func32, Tryz.ntmps32
 go_upto_if 4 with (fail)
 go_cut [4] (fun v4 wc => ∃ (kq : Nat) (x4_1 : Bool), v4 = .bool x4_1 ∧ Aside0 (table_Family.j0 kq a0 a0 x4_1 = some r) ∧ Aside0 (kq ≤ k) ∧ Drawn0 w wc)
 case first =>
  have H := HC2.out
  clear HC2
  by_cases c3 : a0 = 1
  ·rw [if_pos c3] at H
   have c3b0 := beq_iff_eq.mpr c3
   have c3b1 := bne_eq_false_iff_eq.mpr c3
   clear c3
   (first | rw [c3b0] | (simp only [i64_w, i32_w]; rw [c3b0]) | skip)
   have H' := Aside0.mk H
   clear H
   go_wp2
   go_meet
   case rel => exact ⟨_, ((a0 == 1)), sqE, H', ⟨by first | omega | exact Nat.le_refl _⟩, sqW⟩
  rw [if_neg c3] at H
  have c3b0 := beq_eq_false_iff_ne.mpr c3
  have c3b1 := bne_iff_ne.mpr c3
  (first | rw [c3b0] | (simp only [i64_w, i32_w]; rw [c3b0]) | skip)
  by_cases c4 : a0 = 2
  ·rw [if_pos c4] at H
   have c4b0 := beq_iff_eq.mpr c4
   have c4b1 := bne_eq_false_iff_eq.mpr c4
   clear c4
   have H' := Aside0.mk H
   clear H
   go_wp2
   go_meet
   case rel => exact ⟨_, ((a0 == 2)), sqE, H', ⟨by first | omega | exact Nat.le_refl _⟩, sqW⟩
  rw [if_neg c4] at H
  have c4b0 := beq_eq_false_iff_ne.mpr c4
  have c4b1 := bne_iff_ne.mpr c4
  by_cases c5 : a0 = 3
  ·rw [if_pos c5] at H
   have c5b0 := beq_iff_eq.mpr c5
   have c5b1 := bne_eq_false_iff_eq.mpr c5
   clear c5
   have H' := Aside0.mk H
   clear H
   go_wp2
   go_meet
   case rel => exact ⟨_, ((a0 == 3)), sqE, H', ⟨by first | omega | exact Nat.le_refl _⟩, sqW⟩
  rw [if_neg c5] at H
  have c5b0 := beq_eq_false_iff_ne.mpr c5
  have c5b1 := bne_iff_ne.mpr c5
  by_cases c6 : a0 = 4
  ·rw [if_pos c6] at H
   have c6b0 := beq_iff_eq.mpr c6
   have c6b1 := bne_eq_false_iff_eq.mpr c6
   clear c6
   have H' := Aside0.mk H
   clear H
   go_wp2
   go_meet
   case rel => exact ⟨_, ((a0 == 4)), sqE, H', ⟨by first | omega | exact Nat.le_refl _⟩, sqW⟩
  rw [if_neg c6] at H
  have c6b0 := beq_eq_false_iff_ne.mpr c6
  have c6b1 := bne_iff_ne.mpr c6
  have H' := Aside0.mk H
  clear H
  go_wp2
  go_meet
  case rel => exact ⟨_, ((a0 == 5)), sqE, H', ⟨by first | omega | exact Nat.le_refl _⟩, sqW⟩
 case rest =>
  clear HC2
  obtain ⟨kq, x4_1, rfl, HA, HJ1, ⟨mc1, rfl⟩⟩ := hcut
  cases kq with
  | zero => exact absurd HA.out (by simp [table_Family.j0])
  | succ kj1 =>
   have H := HA.out
   clear HA
   simp only [table_Family.j0] at H
   by_cases c7 : x4_1 = true
   ·subst c7
    rw [if_pos rfl] at H
    obtain rfl := Option.some.inj H
    go_wp2
    go_ret
    exact ⟨sqE, sqW⟩
   replace c7 := Bool.eq_false_iff.mpr c7
   subst c7
   rw [if_neg (show ¬ (false = true) by decide)] at H
   by_cases c8 : a0 = 6
   ·rw [if_pos c8] at H
    have c8b0 := beq_iff_eq.mpr c8
    have c8b1 := bne_eq_false_iff_eq.mpr c8
    clear c8
    obtain rfl := Option.some.inj H
    go_wp2
    go_ret
    exact ⟨sqE, sqW⟩
   rw [if_neg c8] at H
   have c8b0 := beq_eq_false_iff_ne.mpr c8
   have c8b1 := bne_iff_ne.mpr c8
   have HC9 := Aside0.mk H
   clear H
   go_upto_if 12 with (fail)
   go_cut [12] (fun v12 wc => ∃ (kq : Nat) (x12_8 : Bool), v12 = .bool x12_8 ∧ Aside0 (table_Family.j1 kq a0 a0 x12_8 = some r) ∧ Aside0 (kq ≤ kj1) ∧ Drawn0 w wc)
   case first =>
    have H := HC9.out
    clear HC9
    by_cases c10 : a0 = 7
    ·rw [if_pos c10] at H
     have c10b0 := beq_iff_eq.mpr c10
     have c10b1 := bne_eq_false_iff_eq.mpr c10
     clear c10
     (first | rw [c10b0] | (simp only [i64_w, i32_w]; rw [c10b0]) | skip)
     have H' := Aside0.mk H
     clear H
     go_wp2
     go_meet
     case rel => exact ⟨_, ((a0 == 7)), sqE, H', ⟨by have := HJ1.out; first | omega | exact Nat.le_refl _⟩, sqW⟩
    rw [if_neg c10] at H
    have c10b0 := beq_eq_false_iff_ne.mpr c10
    have c10b1 := bne_iff_ne.mpr c10
    (first | rw [c10b0] | (simp only [i64_w, i32_w]; rw [c10b0]) | skip)
    have H' := Aside0.mk H
    clear H
    go_wp2
    go_meet
    case rel => exact ⟨_, ((a0 == 8)), sqE, H', ⟨by have := HJ1.out; first | omega | exact Nat.le_refl _⟩, sqW⟩
   case rest =>
    clear HC9
    try clear c7
    try clear c8
    try clear c8b0
    try clear c8b1
    obtain ⟨kq, x12_8, rfl, HA, HJ8, ⟨mc8, rfl⟩⟩ := hcut
    cases kq with
    | zero => exact absurd HA.out (by simp [table_Family.j1])
    | succ kj8 =>
     have H := HA.out
     clear HA
     simp only [table_Family.j1] at H
     by_cases c11 : x12_8 = true
     ·subst c11
      rw [if_pos rfl] at H
      obtain rfl := Option.some.inj H
      go_wp2
      go_ret
      exact ⟨sqE, sqW⟩
     replace c11 := Bool.eq_false_iff.mpr c11
     subst c11
     rw [if_neg (show ¬ (false = true) by decide)] at H
     by_cases c12 : a0 = 9
     ·rw [if_pos c12] at H
      have c12b0 := beq_iff_eq.mpr c12
      have c12b1 := bne_eq_false_iff_eq.mpr c12
      clear c12
      obtain rfl := Option.some.inj H
      go_wp2
      go_ret
      exact ⟨sqE, sqW⟩
     rw [if_neg c12] at H
     have c12b0 := beq_eq_false_iff_ne.mpr c12
     have c12b1 := bne_iff_ne.mpr c12
     by_cases c13 : a0 = 10
     ·rw [if_pos c13] at H
      have c13b0 := beq_iff_eq.mpr c13
      have c13b1 := bne_eq_false_iff_eq.mpr c13
      clear c13
      obtain rfl := Option.some.inj H
      go_wp2
      go_ret
      exact ⟨sqE, sqW⟩
     rw [if_neg c13] at H
     have c13b0 := beq_eq_false_iff_ne.mpr c13
     have c13b1 := bne_iff_ne.mpr c13
     by_cases c14 : a0 = 11
     ·rw [if_pos c14] at H
      have c14b0 := beq_iff_eq.mpr c14
      have c14b1 := bne_eq_false_iff_eq.mpr c14
      clear c14
      obtain rfl := Option.some.inj H
      go_wp2
      go_ret
      exact ⟨sqE, sqW⟩
     rw [if_neg c14] at H
     have c14b0 := beq_eq_false_iff_ne.mpr c14
     have c14b1 := bne_iff_ne.mpr c14
     by_cases c15 : a0 = 12
     ·rw [if_pos c15] at H
      have c15b0 := beq_iff_eq.mpr c15
      have c15b1 := bne_eq_false_iff_eq.mpr c15
      clear c15
      obtain rfl := Option.some.inj H
      go_wp2
      go_ret
      exact ⟨sqE, sqW⟩
     rw [if_neg c15] at H
     have c15b0 := beq_eq_false_iff_ne.mpr c15
     have c15b1 := bne_iff_ne.mpr c15
     by_cases c16 : a0 = 13
     ·rw [if_pos c16] at H
      have c16b0 := beq_iff_eq.mpr c16
      have c16b1 := bne_eq_false_iff_eq.mpr c16
      clear c16
      obtain rfl := Option.some.inj H
      go_wp2
      go_ret
      exact ⟨sqE, sqW⟩
     rw [if_neg c16] at H
     have c16b0 := beq_eq_false_iff_ne.mpr c16
     have c16b1 := bne_iff_ne.mpr c16
     by_cases c17 : a0 = 14
     ·rw [if_pos c17] at H
      have c17b0 := beq_iff_eq.mpr c17
      have c17b1 := bne_eq_false_iff_eq.mpr c17
      clear c17
      obtain rfl := Option.some.inj H
      go_wp2
      go_ret
      exact ⟨sqE, sqW⟩
     rw [if_neg c17] at H
     have c17b0 := beq_eq_false_iff_ne.mpr c17
     have c17b1 := bne_iff_ne.mpr c17
     by_cases c18 : a0 = 15
     ·rw [if_pos c18] at H
      have c18b0 := beq_iff_eq.mpr c18
      have c18b1 := bne_eq_false_iff_eq.mpr c18
      clear c18
      obtain rfl := Option.some.inj H
      go_wp2
      go_ret
      exact ⟨sqE, sqW⟩
     rw [if_neg c18] at H
     have c18b0 := beq_eq_false_iff_ne.mpr c18
     have c18b1 := bne_iff_ne.mpr c18
     obtain rfl := Option.some.inj H
     go_wp2
     go_ret
     exact ⟨sqE, sqW⟩
-- NOT PRINTED: function 90 (math_Float64bits)
def api_Bits.f (a0 : Nat) : Option (Int) := some ((a0 : Nat) : Int)
theorem api_Bits.calls (a0 : Nat) (r : Int) (w : World) (h : api_Bits.f a0 = some r) :
  Calls Tryz.prog 52 #[.float .f64 a0] w fun e w' => e = .returned (.int .u64 r) ∧ Drawn0 w w' := by
 have H : (some ((a0 : Nat) : Int)) = some r := h
 clear h
 have hf2 := fun w_ : World => Rm.x_Float64bits a0 w_
 obtain rfl := Option.some.inj H
 go_enter Tryz.func52, Tryz.ntmps52
 go_wp2
 go_ret
 exact ⟨sqE, sqW⟩
end Go.Proofs.YtnoppeocbfapdaaGreatDoor.T
