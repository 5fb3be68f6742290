import Derived.Test.YtnoppeocbfapdaaGreatDoorTx0
import Derived.Test.YtnoppeocbfapdaaGreatDoorTx5
namespace Go.Proofs.YtnoppeocbfapdaaGreatDoor.T
open Go.RowKit Go.Proofs.YtnoppeocbfapdaaGreatDoorW.PrintWords Go.Proofs.YtnoppeocbfapdaaGreatDoorW.PrintLast Go.Proofs.YtnoppeocbfapdaaGreatDoorW.PrintMore
set_option maxHeartbeats 8000000
set_option maxRecDepth 100000
attribute [local go_sem] max2_int min2_int max_two min_two max_three min_three max_four min_four
set_option linter.unusedVariables false
set_option linter.unusedSimpArgs false
mutual
def table_meet.j0 : Nat → Int → Int → Bool → Int → Int → Int → Int → List Int → ByteArray → ByteArray → Nat → Int → Int → Int → Int → List Int → ByteArray → ByteArray → Nat → Option (Bool)
 | 0, _, _, _, _, _, _, _, _, _, _, _, _, _, _, _, _, _, _, _ => none
 | k + 1, x5, x6, x30, x193000, x193001, x193002, x193003, x193004, x193005, x193006, x193007, x194000, x194001, x194002, x194003, x194004, x194005, x194006, x194007 => if x30 = true then (some (decide (x5 ≤ x6))) else (if x193003 = 0 then (none) else (table_meet.l0 k x6 (wrap64 (x193001 + (wrap64 ((wrap64 (Int.tdiv (wrap64 ((wrap64 ((wrap64 (x5 - x193001)) + x193003)) - 1)) x193003)) * x193003)))) 0 x193000 x193001 x193002 x193003 x193004 x193005 x193006 x193007 x194000 x194001 x194002 x194003 x194004 x194005 x194006 x194007))
def table_meet.l0 : Nat → Int → Int → Int → Int → Int → Int → Int → List Int → ByteArray → ByteArray → Nat → Int → Int → Int → Int → List Int → ByteArray → ByteArray → Nat → Option (Bool)
 | 0, _, _, _, _, _, _, _, _, _, _, _, _, _, _, _, _, _, _, _ => none
 | k + 1, x6, x7, x51, x193000, x193001, x193002, x193003, x193004, x193005, x193006, x193007, x194000, x194001, x194002, x194003, x194004, x194005, x194006, x194007 => if x51 < 64 then (if x7 > x6 then (some false) else ((table_speaks.f x194000 x194001 x194002 x194003 x194004 x194005 x194006 x194007 x7).bind fun t194 => (if t194 = true then (some true) else (table_meet.l0 k x6 (wrap64 (x7 + x193003)) (wrap64 (x51 + 1)) x193000 x193001 x193002 x193003 x193004 x193005 x193006 x193007 x194000 x194001 x194002 x194003 x194004 x194005 x194006 x194007)))) else (some false)
end
def table_meet.g (k : Nat) (a0_0 : Int) (a0_1 : Int) (a0_2 : Int) (a0_3 : Int) (l0_4 : List Int) (a0_5 : ByteArray) (a0_6 : ByteArray) (a0_7 : Nat) (a1_0 : Int) (a1_1 : Int) (a1_2 : Int) (a1_3 : Int) (l1_4 : List Int) (a1_5 : ByteArray) (a1_6 : ByteArray) (a1_7 : Nat) : Option (Bool) := if a0_0 = 4 then (table_meet.j0 k (mx a0_1 a1_1) (mn a0_2 a1_2) (decide ((mx a0_1 a1_1) > (mn a0_2 a1_2))) a0_0 a0_1 a0_2 a0_3 l0_4 a0_5 a0_6 a0_7 a1_0 a1_1 a1_2 a1_3 l1_4 a1_5 a1_6 a1_7) else (table_meet.j0 k (mx a0_1 a1_1) (mn a0_2 a1_2) true a0_0 a0_1 a0_2 a0_3 l0_4 a0_5 a0_6 a0_7 a1_0 a1_1 a1_2 a1_3 l1_4 a1_5 a1_6 a1_7)
def table_meet.f (k : Nat) (a0_0 : Int) (a0_1 : Int) (a0_2 : Int) (a0_3 : Int) (l0_4 : List Int) (a0_5 : ByteArray) (a0_6 : ByteArray) (a0_7 : Nat) (a1_0 : Int) (a1_1 : Int) (a1_2 : Int) (a1_3 : Int) (l1_4 : List Int) (a1_5 : ByteArray) (a1_6 : ByteArray) (a1_7 : Nat) : Option (Bool) := if a0_0 = 4 then table_meet.g k a0_0 a0_1 a0_2 a0_3 l0_4 a0_5 a0_6 a0_7 a1_0 a1_1 a1_2 a1_3 l1_4 a1_5 a1_6 a1_7 else table_meet.g k a1_0 a1_1 a1_2 a1_3 l1_4 a1_5 a1_6 a1_7 a0_0 a0_1 a0_2 a0_3 l0_4 a0_5 a0_6 a0_7
theorem table_meet.mono_l : ∀ k, (∀ y0 y1 y2 y3 y4 y5 y6 y7 y8 y9 y10 y11 y12 y13 y14 y15 y16 y17 y18, LeO (table_meet.j0 k y0 y1 y2 y3 y4 y5 y6 y7 y8 y9 y10 y11 y12 y13 y14 y15 y16 y17 y18) (table_meet.j0 (k + 1) y0 y1 y2 y3 y4 y5 y6 y7 y8 y9 y10 y11 y12 y13 y14 y15 y16 y17 y18)) ∧ (∀ y0 y1 y2 y3 y4 y5 y6 y7 y8 y9 y10 y11 y12 y13 y14 y15 y16 y17 y18, LeO (table_meet.l0 k y0 y1 y2 y3 y4 y5 y6 y7 y8 y9 y10 y11 y12 y13 y14 y15 y16 y17 y18) (table_meet.l0 (k + 1) y0 y1 y2 y3 y4 y5 y6 y7 y8 y9 y10 y11 y12 y13 y14 y15 y16 y17 y18))
 | 0 => ⟨fun _ _ _ _ _ _ _ _ _ _ _ _ _ _ _ _ _ _ _ r h => by simp [table_meet.j0] at h, fun _ _ _ _ _ _ _ _ _ _ _ _ _ _ _ _ _ _ _ r h => by simp [table_meet.l0] at h⟩
 | k + 1 => by
  obtain ⟨ih0, ih1⟩ := table_meet.mono_l k
  refine ⟨?_, ?_⟩
  ·intro y0 y1 y2 y3 y4 y5 y6 y7 y8 y9 y10 y11 y12 y13 y14 y15 y16 y17 y18
   unfold table_meet.j0
   repeat' first | (with_reducible first | apply ih0 | apply ih1 | apply LeO.refl | apply LeO.none | refine LeO.ite ?_ ?_ | refine LeO.bind ?_ (fun _ => ?_)) | apply LeO.none | refine LeO.ite ?_ ?_ | refine LeO.bind ?_ (fun _ => ?_)
  intro y0 y1 y2 y3 y4 y5 y6 y7 y8 y9 y10 y11 y12 y13 y14 y15 y16 y17 y18
  unfold table_meet.l0
  repeat' first | (with_reducible first | apply ih0 | apply ih1 | apply LeO.refl | apply LeO.none | refine LeO.ite ?_ ?_ | refine LeO.bind ?_ (fun _ => ?_)) | apply LeO.none | refine LeO.ite ?_ ?_ | refine LeO.bind ?_ (fun _ => ?_)
theorem table_meet.mono : ∀ a0 a1 a2 a3 a4 a5 a6 a7 a8 a9 a10 a11 a12 a13 a14 a15 k, LeO (table_meet.f k a0 a1 a2 a3 a4 a5 a6 a7 a8 a9 a10 a11 a12 a13 a14 a15) (table_meet.f (k + 1) a0 a1 a2 a3 a4 a5 a6 a7 a8 a9 a10 a11 a12 a13 a14 a15) := by
 intro a0 a1 a2 a3 a4 a5 a6 a7 a8 a9 a10 a11 a12 a13 a14 a15 k
 obtain ⟨ih0, ih1⟩ := table_meet.mono_l k
 unfold table_meet.f table_meet.g
 repeat' first | (with_reducible first | apply ih0 | apply ih1 | apply LeO.refl | apply LeO.none | refine LeO.ite ?_ ?_ | refine LeO.bind ?_ (fun _ => ?_)) | apply LeO.none | refine LeO.ite ?_ ?_ | refine LeO.bind ?_ (fun _ => ?_)
theorem table_meet.calls (k : Nat) (a0_0 : Int) (a0_1 : Int) (a0_2 : Int) (a0_3 : Int) (A0_4 : Option Addr) (c0_4 : Nat) (l0_4 : List Int) (a0_5 : ByteArray) (a0_6 : ByteArray) (a0_7 : Nat) (a1_0 : Int) (a1_1 : Int) (a1_2 : Int) (a1_3 : Int) (A1_4 : Option Addr) (c1_4 : Nat) (l1_4 : List Int) (a1_5 : ByteArray) (a1_6 : ByteArray) (a1_7 : Nat) (r : Bool) (w : World) (hr0_4 : Kd.C (Kd.int .i32) w A0_4 l0_4.length l0_4) (hc0_4 : l0_4.length ≤ c0_4) (hr1_4 : Kd.C (Kd.int .i32) w A1_4 l1_4.length l1_4) (hc1_4 : l1_4.length ≤ c1_4) (h : table_meet.f k a0_0 a0_1 a0_2 a0_3 l0_4 a0_5 a0_6 a0_7 a1_0 a1_1 a1_2 a1_3 l1_4 a1_5 a1_6 a1_7 = some r) :
  Calls Tryz.prog 58 #[.agg #[.int .i64 a0_0, .int .i64 a0_1, .int .i64 a0_2, .int .i64 a0_3, .slice A0_4 l0_4.length c0_4, .string a0_5, .string a0_6, .float .f64 a0_7], .agg #[.int .i64 a1_0, .int .i64 a1_1, .int .i64 a1_2, .int .i64 a1_3, .slice A1_4 l1_4.length c1_4, .string a1_5, .string a1_6, .float .f64 a1_7]] w fun e w' => e = .returned (.bool r) ∧ Below w.heap.size w w' := by
 have hu25 := Tryz.underlying25
 have HR0_4 := Aside0.mk hr0_4
 have HC0_4 := Aside0.mk hc0_4
 clear hr0_4 hc0_4
 have HR1_4 := Aside0.mk hr1_4
 have HC1_4 := Aside0.mk hc1_4
 clear hr1_4 hc1_4
 have HB := Aside0.mk (Below.refl w.heap.size w)
 have HM := Aside0.mk h
 clear h
 go_enter Tryz.func58, Tryz.ntmps58
 go_upto_if 10 with (first | ((with_reducible refine gate_dst (N := 2) rfl ?_); refine box_event ?hg (N := 2) ?hd (cs := #[.int .i64 a0_0, .int .i64 a0_1, .int .i64 a0_2, .int .i64 a0_3, .slice A0_4 l0_4.length c0_4, .string a0_5, .string a0_6, .float .f64 a0_7]) (t := 25) ?hr ?_; (case hd => rfl); (case hg => rfl); (case hr => first | (go_simp; done) | (go_simp; rfl)); intro gb192 hg w6 hbox hb; have n0_ := Aside0.mk (below_step sqB hb); have n1_ := Aside0.mk (hbox); have n2_ := Aside0.mk ((by rw [hg]; exact (below_size sqB) : w.heap.size ≤ gb192)); have n3_ := Aside0.mk ((by rw [hg]; exact (below_size sqB) : w.heap.size ≤ gb192)); clear HB; have HB := n0_; have BK192 := n1_; have GW192 := n2_; have GE192 := n3_; clear n0_ n1_ n2_ n3_; clear hb hbox hg) | ((with_reducible refine gate_dst (N := 3) rfl ?_); refine box_event ?hg (N := 3) ?hd (cs := #[.int .i64 a1_0, .int .i64 a1_1, .int .i64 a1_2, .int .i64 a1_3, .slice A1_4 l1_4.length c1_4, .string a1_5, .string a1_6, .float .f64 a1_7]) (t := 25) ?hr ?_; (case hd => rfl); (case hg => rfl); (case hr => first | (go_simp; done) | (go_simp; rfl)); intro gb193 hg w7 hbox hb; have n0_ := Aside0.mk (sqM BK192.out hb); have n1_ := Aside0.mk (below_step sqH hb); have n2_ := Aside0.mk (hbox); have n3_ := Aside0.mk ((by rw [hg]; exact (below_size sqH) : w.heap.size ≤ gb193)); have n4_ := Aside0.mk ((by rw [hg]; exact (below_size sqH) : w.heap.size ≤ gb193)); have n5_ := Aside0.mk ((by rw [hg]; exact Nat.ne_of_lt (blk_lt (g := gb192) (o := .cells #[.int .i64 a0_0, .int .i64 a0_1, .int .i64 a0_2, .int .i64 a0_3, .slice A0_4 l0_4.length c0_4, .string a0_5, .string a0_6, .float .f64 a0_7] 25 (0, 0)) (sqK BK192.out)) : gb192 ≠ gb193)); have n6_ := Aside0.mk ((by rw [hg]; exact Nat.ne_of_gt (blk_lt (g := gb192) (o := .cells #[.int .i64 a0_0, .int .i64 a0_1, .int .i64 a0_2, .int .i64 a0_3, .slice A0_4 l0_4.length c0_4, .string a0_5, .string a0_6, .float .f64 a0_7] 25 (0, 0)) (sqK BK192.out)) : gb193 ≠ gb192)); clear BK192; clear HB; have BK192 := n0_; have HB := n1_; have BK193 := n2_; have GW193 := n3_; have GE193 := n4_; have NB192_193 := n5_; have NB193_192 := n6_; clear n0_ n1_ n2_ n3_ n4_ n5_ n6_; clear hb hbox hg; have hnb8 := NB192_193.out; have hnc8 := NB193_192.out; obtain ⟨hcz9_0, hcz9_1, hcz9_2, hcz9_3, hcz9_4, hcz9_5, hcz9_6, hcz9_7, hfz9_0, hfz9_1, hfz9_2, hfz9_3, hfz9_4, hfz9_5, hfz9_6, hfz9_7⟩ := box8 BK192.out; obtain ⟨hcz10_0, hcz10_1, hcz10_2, hcz10_3, hcz10_4, hcz10_5, hcz10_6, hcz10_7, hfz10_0, hfz10_1, hfz10_2, hfz10_3, hfz10_4, hfz10_5, hfz10_6, hfz10_7⟩ := box8 BK193.out))
 (try simp only [Act.put, List.setIfInBounds_toArray, List.set_cons_zero, List.set_cons_succ])
 go_cut [] (fun wc => ∃ (x0 x1 x2 x3 : Int) (xA : Option Addr) (xc : Nat) (x4 : List Int) (x5 x6 : ByteArray) (x7 : Nat) (y0 y1 y2 y3 : Int) (yA : Option Addr) (yc : Nat) (y4 : List Int) (y5 y6 : ByteArray) (y7 : Nat), Aside0 (table_meet.g k x0 x1 x2 x3 x4 x5 x6 x7 y0 y1 y2 y3 y4 y5 y6 y7 = some r) ∧ Aside0 (Kd.C (Kd.int .i32) w xA x4.length x4) ∧ Aside0 (x4.length ≤ xc) ∧ Aside0 (Kd.C (Kd.int .i32) w yA y4.length y4) ∧ Aside0 (y4.length ≤ yc) ∧ Aside0 (wc.heap[gb192]? = some (.cells #[.int .i64 x0, .int .i64 x1, .int .i64 x2, .int .i64 x3, .slice xA x4.length xc, .string x5, .string x6, .float .f64 x7] 25 (0, 0))) ∧ Aside0 (wc.heap[gb193]? = some (.cells #[.int .i64 y0, .int .i64 y1, .int .i64 y2, .int .i64 y3, .slice yA y4.length yc, .string y5, .string y6, .float .f64 y7] 25 (0, 0))) ∧ Aside0 (Below w.heap.size w wc))
 case first =>
   by_cases c : a0_0 = 4
   ·have c1 := bne_eq_false_iff_eq.mpr c
    have e := HM.out
    unfold table_meet.f at e
    rw [if_pos c] at e
    have HM1 := Aside0.mk e
    clear c e
    go_wp2
    go_meet
    case rel => exact ⟨a0_0, a0_1, a0_2, a0_3, A0_4, c0_4, l0_4, a0_5, a0_6, a0_7, a1_0, a1_1, a1_2, a1_3, A1_4, c1_4, l1_4, a1_5, a1_6, a1_7, HM1, HR0_4, HC0_4, HR1_4, HC1_4, BK192, BK193, HB⟩
   ·have c1 := bne_iff_ne.mpr c
    have e := HM.out
    unfold table_meet.f at e
    rw [if_neg c] at e
    have HM1 := Aside0.mk e
    clear c e
    go_wp2_with (first | ((with_reducible refine gate_store (p := 2) rfl ?_); refine rec_event rfl 25 _ _ rfl gb192 25 [.int .i64 a0_0, .int .i64 a0_1, .int .i64 a0_2, .int .i64 a0_3, .slice A0_4 l0_4.length c0_4, .string a0_5, .string a0_6, .float .f64 a0_7] [.int .i64 a1_0, .int .i64 a1_1, .int .i64 a1_2, .int .i64 a1_3, .slice A1_4 l1_4.length c1_4, .string a1_5, .string a1_6, .float .f64 a1_7] (sqK BK192.out) rfl (by kernel_rfl) (by intro q hq; simp only [List.mem_cons, List.not_mem_nil, or_false] at hq; rcases hq with rfl | rfl | rfl | rfl | rfl | rfl | rfl | rfl <;> rfl) rfl rfl (fun W_ h1_ h2_ h3_ => ?_); have n0_ := Aside0.mk h1_; have n1_ := Aside0.mk ((h2_ gb193 NB193_192.out).trans (sqK BK193.out)); have n2_ := Aside0.mk (h3_ _ _ GE192.out sqH); clear h1_ h2_ h3_) | ((with_reducible refine gate_store (p := 3) rfl ?_); refine rec_event rfl 25 _ _ rfl gb193 25 [.int .i64 a1_0, .int .i64 a1_1, .int .i64 a1_2, .int .i64 a1_3, .slice A1_4 l1_4.length c1_4, .string a1_5, .string a1_6, .float .f64 a1_7] [.int .i64 a0_0, .int .i64 a0_1, .int .i64 a0_2, .int .i64 a0_3, .slice A0_4 l0_4.length c0_4, .string a0_5, .string a0_6, .float .f64 a0_7] n1_.out rfl (by kernel_rfl) (by intro q hq; simp only [List.mem_cons, List.not_mem_nil, or_false] at hq; rcases hq with rfl | rfl | rfl | rfl | rfl | rfl | rfl | rfl <;> rfl) rfl rfl (fun W_ h1_ h2_ h3_ => ?_); have m0_ := Aside0.mk h1_; have m1_ := Aside0.mk ((h2_ gb192 NB192_193.out).trans n0_.out); have m2_ := Aside0.mk (h3_ _ _ GE193.out n2_.out); clear h1_ h2_ h3_))
    go_meet
    case rel => exact ⟨a1_0, a1_1, a1_2, a1_3, A1_4, c1_4, l1_4, a1_5, a1_6, a1_7, a0_0, a0_1, a0_2, a0_3, A0_4, c0_4, l0_4, a0_5, a0_6, a0_7, HM1, HR1_4, HC1_4, HR0_4, HC0_4, m1_, m0_, m2_⟩
 case rest =>
  clear HM HR0_4 HC0_4 HR1_4 HC1_4 BK192 BK193 HB
  clear hnb8 hnc8 hcz9_0 hcz9_1 hcz9_2 hcz9_3 hcz9_4 hcz9_5 hcz9_6 hcz9_7 hfz9_0 hfz9_1 hfz9_2 hfz9_3 hfz9_4 hfz9_5 hfz9_6 hfz9_7 hcz10_0 hcz10_1 hcz10_2 hcz10_3 hcz10_4 hcz10_5 hcz10_6 hcz10_7 hfz10_0 hfz10_1 hfz10_2 hfz10_3 hfz10_4 hfz10_5 hfz10_6 hfz10_7
  obtain ⟨a0_0, a0_1, a0_2, a0_3, A0_4, c0_4, l0_4, a0_5, a0_6, a0_7, a1_0, a1_1, a1_2, a1_3, A1_4, c1_4, l1_4, a1_5, a1_6, a1_7, HM, HR0_4, HC0_4, HR1_4, HC1_4, BK192, BK193, HB⟩ := hcut
  have H := HM.out
  clear HM
  unfold table_meet.g at H
  obtain ⟨ji3, hji3⟩ : ∃ j_ : Int, (mx a0_1 a1_1) = j_ := ⟨_, rfl⟩
  replace H : (if a0_0 = 4 then (table_meet.j0 k ji3 (mn a0_2 a1_2) (decide ((ji3) > (mn a0_2 a1_2))) a0_0 a0_1 a0_2 a0_3 l0_4 a0_5 a0_6 a0_7 a1_0 a1_1 a1_2 a1_3 l1_4 a1_5 a1_6 a1_7) else (table_meet.j0 k ji3 (mn a0_2 a1_2) true a0_0 a0_1 a0_2 a0_3 l0_4 a0_5 a0_6 a0_7 a1_0 a1_1 a1_2 a1_3 l1_4 a1_5 a1_6 a1_7)) = some r := by first | (rw [hji3] at H; exact H) | (simp only [hji3] at H ⊢; exact H)
  have hji3_ : (if a0_1 < a1_1 then a1_1 else a0_1) = ji3 := hji3
  obtain ⟨ji4, hji4⟩ : ∃ j_ : Int, (mn a0_2 a1_2) = j_ := ⟨_, rfl⟩
  replace H : (if a0_0 = 4 then (table_meet.j0 k ji3 ji4 (decide ((ji3) > (ji4))) a0_0 a0_1 a0_2 a0_3 l0_4 a0_5 a0_6 a0_7 a1_0 a1_1 a1_2 a1_3 l1_4 a1_5 a1_6 a1_7) else (table_meet.j0 k ji3 ji4 true a0_0 a0_1 a0_2 a0_3 l0_4 a0_5 a0_6 a0_7 a1_0 a1_1 a1_2 a1_3 l1_4 a1_5 a1_6 a1_7)) = some r := by first | (rw [hji4] at H; exact H) | (simp only [hji4] at H ⊢; exact H)
  have hji4_ : (if a1_2 < a0_2 then a1_2 else a0_2) = ji4 := hji4
  have HC5 := Aside0.mk H
  clear H
  have hnb8 := NB192_193.out
  have hnc8 := NB193_192.out
  obtain ⟨hcz9_0, hcz9_1, hcz9_2, hcz9_3, hcz9_4, hcz9_5, hcz9_6, hcz9_7, hfz9_0, hfz9_1, hfz9_2, hfz9_3, hfz9_4, hfz9_5, hfz9_6, hfz9_7⟩ := box8 BK192.out
  obtain ⟨hcz10_0, hcz10_1, hcz10_2, hcz10_3, hcz10_4, hcz10_5, hcz10_6, hcz10_7, hfz10_0, hfz10_1, hfz10_2, hfz10_3, hfz10_4, hfz10_5, hfz10_6, hfz10_7⟩ := box8 BK193.out
  go_upto_region 4 with (fail)
  repeat (go_quiet (fail); go_upto_region 4 with (fail))
  (try simp only [Act.put, List.setIfInBounds_toArray, List.set_cons_zero, List.set_cons_succ])
  go_cut [30] (fun v30 wc => ∃ (kq : Nat) (x30_4 : Bool), v30 = .bool x30_4 ∧ Aside0 (table_meet.j0 kq ji3 ji4 x30_4 a0_0 a0_1 a0_2 a0_3 l0_4 a0_5 a0_6 a0_7 a1_0 a1_1 a1_2 a1_3 l1_4 a1_5 a1_6 a1_7 = some r) ∧ Aside0 (kq ≤ k) ∧ Aside0 (wc.heap[gb192]? = some (.cells #[.int .i64 a0_0, .int .i64 a0_1, .int .i64 a0_2, .int .i64 a0_3, (.slice A0_4 l0_4.length c0_4), .string a0_5, .string a0_6, .float .f64 a0_7] 25 (0, 0))) ∧ Aside0 (wc.heap[gb193]? = some (.cells #[.int .i64 a1_0, .int .i64 a1_1, .int .i64 a1_2, .int .i64 a1_3, (.slice A1_4 l1_4.length c1_4), .string a1_5, .string a1_6, .float .f64 a1_7] 25 (0, 0))) ∧ Aside0 (Below w.heap.size w wc))
  case first =>
   have H := HC5.out
   clear HC5
   by_cases c11 : a0_0 = 4
   ·rw [if_pos c11] at H
    have c11b0 := beq_iff_eq.mpr c11
    have c11b1 := bne_eq_false_iff_eq.mpr c11
    clear c11
    (first | rw [c11b0] | (simp only [i64_w, i32_w]; rw [c11b0]) | skip)
    have H' := Aside0.mk H
    clear H
    have hnb12 := NB192_193.out
    have hnc12 := NB193_192.out
    obtain ⟨hcz13_0, hcz13_1, hcz13_2, hcz13_3, hcz13_4, hcz13_5, hcz13_6, hcz13_7, hfz13_0, hfz13_1, hfz13_2, hfz13_3, hfz13_4, hfz13_5, hfz13_6, hfz13_7⟩ := box8 BK192.out
    go_wp2
    repeat (go_quiet (fail); try go_wp2)
    go_meet
    case rel => exact ⟨_, (decide ((ji3) > (ji4))), (by first | rfl | (simp; done) | (simp only [← hji3, ← hji4] <;> (first | rfl | simp)) | (simp [*]; done)), H', ⟨by first | omega | exact Nat.le_refl _⟩, ⟨by (with_reducible repeat (first | refine blk_drewN ?_ _ | refine blk_drew ?_ | refine blk_alloc ?_ _)); exact BK192.out⟩, ⟨by (with_reducible repeat (first | refine blk_drewN ?_ _ | refine blk_drew ?_ | refine blk_alloc ?_ _)); exact BK193.out⟩, ⟨sqH⟩⟩
   rw [if_neg c11] at H
   have c11b0 := beq_eq_false_iff_ne.mpr c11
   have c11b1 := bne_iff_ne.mpr c11
   (first | rw [c11b0] | (simp only [i64_w, i32_w]; rw [c11b0]) | skip)
   have H' := Aside0.mk H
   clear H
   have hnb14 := NB192_193.out
   have hnc14 := NB193_192.out
   obtain ⟨hcz15_0, hcz15_1, hcz15_2, hcz15_3, hcz15_4, hcz15_5, hcz15_6, hcz15_7, hfz15_0, hfz15_1, hfz15_2, hfz15_3, hfz15_4, hfz15_5, hfz15_6, hfz15_7⟩ := box8 BK192.out
   go_wp2
   repeat (go_quiet (fail); try go_wp2)
   go_meet
   case rel => exact ⟨_, (true), sqE, H', ⟨by first | omega | exact Nat.le_refl _⟩, ⟨by (with_reducible repeat (first | refine blk_drewN ?_ _ | refine blk_drew ?_ | refine blk_alloc ?_ _)); exact BK192.out⟩, ⟨by (with_reducible repeat (first | refine blk_drewN ?_ _ | refine blk_drew ?_ | refine blk_alloc ?_ _)); exact BK193.out⟩, ⟨sqH⟩⟩
  case rest =>
   clear HC5
   try clear hcz10_0
   try clear hcz10_1
   try clear hcz10_2
   try clear hcz10_3
   try clear hcz10_4
   try clear hcz10_5
   try clear hcz10_6
   try clear hcz10_7
   try clear hcz9_0
   try clear hcz9_1
   try clear hcz9_2
   try clear hcz9_3
   try clear hcz9_4
   try clear hcz9_5
   try clear hcz9_6
   try clear hcz9_7
   try clear hfz10_0
   try clear hfz10_1
   try clear hfz10_2
   try clear hfz10_3
   try clear hfz10_4
   try clear hfz10_5
   try clear hfz10_6
   try clear hfz10_7
   try clear hfz9_0
   try clear hfz9_1
   try clear hfz9_2
   try clear hfz9_3
   try clear hfz9_4
   try clear hfz9_5
   try clear hfz9_6
   try clear hfz9_7
   obtain ⟨kq, x30_4, rfl, HA, HJ4, BK192, BK193, HB⟩ := hcut
   cases kq with
   | zero => exact absurd HA.out (by simp [table_meet.j0])
   | succ kj4 =>
    have H := HA.out
    clear HA
    simp only [table_meet.j0] at H
    by_cases c16 : x30_4 = true
    ·subst c16
     rw [if_pos rfl] at H
     obtain rfl := Option.some.inj H
     go_wp2
     repeat (go_quiet (fail); try go_wp2)
     go_ret
     exact ⟨by first | rfl | (simp [errW_none, errW_some] <;> rfl) | (simp only [← hji3, ← hji4]; first | rfl | (simp [errW_none, errW_some] <;> rfl)) | (simp [*, errW_none, errW_some] <;> rfl), sqH⟩
    replace c16 := Bool.eq_false_iff.mpr c16
    subst c16
    rw [if_neg (show ¬ (false = true) by decide)] at H
    by_cases c17 : a0_3 = 0
    ·rw [if_pos c17] at H
     exact absurd H (by simp)
    rw [if_neg c17] at H
    have c17b0 := beq_eq_false_iff_ne.mpr c17
    have c17b1 := bne_iff_ne.mpr c17
    have H' := Aside0.mk H
    clear H
    have hnb18 := NB192_193.out
    have hnc18 := NB193_192.out
    obtain ⟨hcz19_0, hcz19_1, hcz19_2, hcz19_3, hcz19_4, hcz19_5, hcz19_6, hcz19_7, hfz19_0, hfz19_1, hfz19_2, hfz19_3, hfz19_4, hfz19_5, hfz19_6, hfz19_7⟩ := box8 BK192.out
    go_wp2
    repeat (go_quiet (fail); try go_wp2)
    go_loopg [7, 51] kj4 (fun kq v7 v51 w' => ∃ (x7_2 : Int) (x51_2 : Int), v7 = .int .i64 x7_2 ∧ v51 = .int .i64 x51_2 ∧ Aside0 (table_meet.l0 kq ji4 x7_2 x51_2 a0_0 a0_1 a0_2 a0_3 l0_4 a0_5 a0_6 a0_7 a1_0 a1_1 a1_2 a1_3 l1_4 a1_5 a1_6 a1_7 = some r) ∧ Aside0 (kq ≤ kj4) ∧ Aside0 (w'.heap[gb192]? = some (.cells #[.int .i64 a0_0, .int .i64 a0_1, .int .i64 a0_2, .int .i64 a0_3, (.slice A0_4 l0_4.length c0_4), .string a0_5, .string a0_6, .float .f64 a0_7] 25 (0, 0))) ∧ Aside0 (w'.heap[gb193]? = some (.cells #[.int .i64 a1_0, .int .i64 a1_1, .int .i64 a1_2, .int .i64 a1_3, (.slice A1_4 l1_4.length c1_4), .string a1_5, .string a1_6, .float .f64 a1_7] 25 (0, 0))) ∧ Aside0 (Below w.heap.size w w'))
    case atStart => exact ⟨(wrap64 (a0_1 + (wrap64 ((wrap64 (Int.tdiv (wrap64 ((wrap64 ((wrap64 (ji3 - a0_1)) + a0_3)) - 1)) a0_3)) * a0_3)))), (0), (by first | rfl | (simp; done) | (simp only [← hji3] <;> (first | rfl | simp)) | (simp [*]; done)), sqE, H', ⟨Nat.le_refl _⟩, ⟨by (with_reducible repeat (first | refine blk_drewN ?_ _ | refine blk_drew ?_ | refine blk_alloc ?_ _)); exact BK192.out⟩, ⟨by (with_reducible repeat (first | refine blk_drewN ?_ _ | refine blk_drew ?_ | refine blk_alloc ?_ _)); exact BK193.out⟩, ⟨sqH⟩⟩
    case round =>
     clear H'
     try clear c16
     try clear c17
     try clear c17b0
     try clear c17b1
     try clear hcz10_0
     try clear hcz10_1
     try clear hcz10_2
     try clear hcz10_3
     try clear hcz10_4
     try clear hcz10_5
     try clear hcz10_6
     try clear hcz10_7
     try clear hcz19_0
     try clear hcz19_1
     try clear hcz19_2
     try clear hcz19_3
     try clear hcz19_4
     try clear hcz19_5
     try clear hcz19_6
     try clear hcz19_7
     try clear hcz9_0
     try clear hcz9_1
     try clear hcz9_2
     try clear hcz9_3
     try clear hcz9_4
     try clear hcz9_5
     try clear hcz9_6
     try clear hcz9_7
     try clear hfz10_0
     try clear hfz10_1
     try clear hfz10_2
     try clear hfz10_3
     try clear hfz10_4
     try clear hfz10_5
     try clear hfz10_6
     try clear hfz10_7
     try clear hfz19_0
     try clear hfz19_1
     try clear hfz19_2
     try clear hfz19_3
     try clear hfz19_4
     try clear hfz19_5
     try clear hfz19_6
     try clear hfz19_7
     try clear hfz9_0
     try clear hfz9_1
     try clear hfz9_2
     try clear hfz9_3
     try clear hfz9_4
     try clear hfz9_5
     try clear hfz9_6
     try clear hfz9_7
     obtain ⟨x7_2, x51_2, rfl, rfl, HA, HK2, BK192, BK193, HB⟩ := hrel
     cases gk with
     | zero => exact absurd HA.out (by simp [table_meet.l0])
     | succ k2 =>
      have H := HA.out
      clear HA
      simp only [table_meet.l0] at H
      by_cases c20 : x51_2 < 64
      case neg =>
       rw [if_neg c20] at H
       have c20b0 := decide_eq_false c20
       clear c20
       obtain rfl := Option.some.inj H
       go_wp2
       repeat (go_quiet (fail); try go_wp2)
       go_ret
       exact ⟨by first | rfl | (simp [errW_none, errW_some] <;> rfl) | (simp only [← hji3, ← hji4]; first | rfl | (simp [errW_none, errW_some] <;> rfl)) | (simp [*, errW_none, errW_some] <;> rfl), sqH⟩
      rw [if_pos c20] at H
      have c20b0 := decide_eq_true c20
      clear c20
      by_cases c21 : x7_2 > ji4
      ·rw [if_pos c21] at H
       have c21b0 := decide_eq_true c21
       clear c21
       obtain rfl := Option.some.inj H
       go_wp2
       repeat (go_quiet (fail); try go_wp2)
       go_ret
       exact ⟨by first | rfl | (simp [errW_none, errW_some] <;> rfl) | (simp only [← hji3, ← hji4]; first | rfl | (simp [errW_none, errW_some] <;> rfl)) | (simp [*, errW_none, errW_some] <;> rfl), sqH⟩
      rw [if_neg c21] at H
      have c21b0 := decide_eq_false c21
      clear c21
      obtain ⟨t194, A22, H⟩ := sqO H
      try dsimp only at H
      by_cases c23 : t194 = true
      ·subst c23
       rw [if_pos rfl] at H
       obtain rfl := Option.some.inj H
       have hnb24 := NB193_192.out
       have hnc24 := NB192_193.out
       obtain ⟨hcz25_0, hcz25_1, hcz25_2, hcz25_3, hcz25_4, hcz25_5, hcz25_6, hcz25_7, hfz25_0, hfz25_1, hfz25_2, hfz25_3, hfz25_4, hfz25_5, hfz25_6, hfz25_7⟩ := box8 BK193.out
       go_wp2_with (first | (go_at_call 70; (with_reducible refine (table_speaks.calls a1_0 a1_1 a1_2 a1_3 _ _ l1_4 a1_5 a1_6 a1_7 x7_2 true _ ?side1 ?side2 A22.out).mono ?_); (case side1 => exact sqC (Kd.C_below HR1_4.out HB.out)); (case side2 => exact HC1_4.out); rintro e w26 ⟨rfl, hb⟩; replace BK192 := Aside0.mk (sqM BK192.out hb); replace BK193 := Aside0.mk (sqM BK193.out hb); replace HB := Aside0.mk (below_step sqH hb); (try clear hb)))
       repeat (go_quiet (first | (go_at_call 70; (with_reducible refine (table_speaks.calls a1_0 a1_1 a1_2 a1_3 _ _ l1_4 a1_5 a1_6 a1_7 x7_2 true _ ?side1 ?side2 A22.out).mono ?_); (case side1 => exact sqC (Kd.C_below HR1_4.out HB.out)); (case side2 => exact HC1_4.out); rintro e w26 ⟨rfl, hb⟩; replace BK192 := Aside0.mk (sqM BK192.out hb); replace BK193 := Aside0.mk (sqM BK193.out hb); replace HB := Aside0.mk (below_step sqH hb); (try clear hb))); try go_wp2_with (first | (go_at_call 70; (with_reducible refine (table_speaks.calls a1_0 a1_1 a1_2 a1_3 _ _ l1_4 a1_5 a1_6 a1_7 x7_2 true _ ?side1 ?side2 A22.out).mono ?_); (case side1 => exact sqC (Kd.C_below HR1_4.out HB.out)); (case side2 => exact HC1_4.out); rintro e w26 ⟨rfl, hb⟩; replace BK192 := Aside0.mk (sqM BK192.out hb); replace BK193 := Aside0.mk (sqM BK193.out hb); replace HB := Aside0.mk (below_step sqH hb); (try clear hb))))
       go_ret
       exact ⟨by first | rfl | (simp [errW_none, errW_some] <;> rfl) | (simp only [← hji3, ← hji4]; first | rfl | (simp [errW_none, errW_some] <;> rfl)) | (simp [*, errW_none, errW_some] <;> rfl), sqH⟩
      replace c23 := Bool.eq_false_iff.mpr c23
      subst c23
      rw [if_neg (show ¬ (false = true) by decide)] at H
      have H' := Aside0.mk H
      clear H
      have hnb27 := NB193_192.out
      have hnc27 := NB192_193.out
      obtain ⟨hcz28_0, hcz28_1, hcz28_2, hcz28_3, hcz28_4, hcz28_5, hcz28_6, hcz28_7, hfz28_0, hfz28_1, hfz28_2, hfz28_3, hfz28_4, hfz28_5, hfz28_6, hfz28_7⟩ := box8 BK193.out
      go_wp2_with (first | (go_at_call 70; (with_reducible refine (table_speaks.calls a1_0 a1_1 a1_2 a1_3 _ _ l1_4 a1_5 a1_6 a1_7 x7_2 false _ ?side1 ?side2 A22.out).mono ?_); (case side1 => exact sqC (Kd.C_below HR1_4.out HB.out)); (case side2 => exact HC1_4.out); rintro e w29 ⟨rfl, hb⟩; replace BK192 := Aside0.mk (sqM BK192.out hb); replace BK193 := Aside0.mk (sqM BK193.out hb); replace HB := Aside0.mk (below_step sqH hb); (try clear hb); obtain ⟨hcz30_0, hcz30_1, hcz30_2, hcz30_3, hcz30_4, hcz30_5, hcz30_6, hcz30_7, hfz30_0, hfz30_1, hfz30_2, hfz30_3, hfz30_4, hfz30_5, hfz30_6, hfz30_7⟩ := box8 BK192.out))
      repeat (go_quiet (first | (go_at_call 70; (with_reducible refine (table_speaks.calls a1_0 a1_1 a1_2 a1_3 _ _ l1_4 a1_5 a1_6 a1_7 x7_2 false _ ?side1 ?side2 A22.out).mono ?_); (case side1 => exact sqC (Kd.C_below HR1_4.out HB.out)); (case side2 => exact HC1_4.out); rintro e w29 ⟨rfl, hb⟩; replace BK192 := Aside0.mk (sqM BK192.out hb); replace BK193 := Aside0.mk (sqM BK193.out hb); replace HB := Aside0.mk (below_step sqH hb); (try clear hb); obtain ⟨hcz30_0, hcz30_1, hcz30_2, hcz30_3, hcz30_4, hcz30_5, hcz30_6, hcz30_7, hfz30_0, hfz30_1, hfz30_2, hfz30_3, hfz30_4, hfz30_5, hfz30_6, hfz30_7⟩ := box8 BK192.out)); try go_wp2_with (first | (go_at_call 70; (with_reducible refine (table_speaks.calls a1_0 a1_1 a1_2 a1_3 _ _ l1_4 a1_5 a1_6 a1_7 x7_2 false _ ?side1 ?side2 A22.out).mono ?_); (case side1 => exact sqC (Kd.C_below HR1_4.out HB.out)); (case side2 => exact HC1_4.out); rintro e w29 ⟨rfl, hb⟩; replace BK192 := Aside0.mk (sqM BK192.out hb); replace BK193 := Aside0.mk (sqM BK193.out hb); replace HB := Aside0.mk (below_step sqH hb); (try clear hb); obtain ⟨hcz30_0, hcz30_1, hcz30_2, hcz30_3, hcz30_4, hcz30_5, hcz30_6, hcz30_7, hfz30_0, hfz30_1, hfz30_2, hfz30_3, hfz30_4, hfz30_5, hfz30_6, hfz30_7⟩ := box8 BK192.out)))
      go_roundg k2
      case measure => have := HJ4.out; have := HK2.out; omega
      case rel => exact ⟨(wrap64 (x7_2 + a0_3)), (wrap64 (x51_2 + 1)), sqE, sqE, H', ⟨by have := HJ4.out; have := HK2.out; omega⟩, ⟨by (with_reducible repeat (first | refine blk_drewN ?_ _ | refine blk_drew ?_ | refine blk_alloc ?_ _)); exact BK192.out⟩, ⟨by (with_reducible repeat (first | refine blk_drewN ?_ _ | refine blk_drew ?_ | refine blk_alloc ?_ _)); exact BK193.out⟩, ⟨sqH⟩⟩
end Go.Proofs.YtnoppeocbfapdaaGreatDoor.T
