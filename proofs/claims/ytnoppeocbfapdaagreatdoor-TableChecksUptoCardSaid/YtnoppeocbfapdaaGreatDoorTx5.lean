import Derived.Test.YtnoppeocbfapdaaGreatDoorTx0
import Derived.Test.YtnoppeocbfapdaaGreatDoorTx1
import Derived.Test.YtnoppeocbfapdaaGreatDoorTx4
namespace Go.Proofs.YtnoppeocbfapdaaGreatDoor.T
open Go.RowKit Go.Proofs.YtnoppeocbfapdaaGreatDoorW.PrintWords Go.Proofs.YtnoppeocbfapdaaGreatDoorW.PrintLast Go.Proofs.YtnoppeocbfapdaaGreatDoorW.PrintMore
set_option maxHeartbeats 8000000
set_option maxRecDepth 100000
attribute [local go_sem] max2_int min2_int max_two min_two max_three min_three max_four min_four
set_option linter.unusedVariables false
set_option linter.unusedSimpArgs false
def table_Right.j0 : Nat → Bool → Int → Int → Int → Int → List Int → ByteArray → ByteArray → Nat → Option (Int)
 | 0, _, _, _, _, _, _, _, _, _ => none
 | k + 1, x3, x188000, x188001, x188002, x188003, x188004, x188005, x188006, x188007 => if x188000 = 15 then (if x188001 = 0 then (if x188002 = 0 then ((table_fits.f k x188000 x188001 x188002 x188003 x188004 x188005 x188006 x188007).bind fun t189 => (if t189 = true then (some 0) else (some 61))) else (some 61)) else (some 61)) else (if x3 = true then ((table_fits.f k x188000 x188001 x188002 x188003 x188004 x188005 x188006 x188007).bind fun t190 => (if t190 = true then (some 0) else (some 61))) else (some 61))
def table_Right.f (k : Nat) (a0_0 : Int) (a0_1 : Int) (a0_2 : Int) (a0_3 : Int) (l0_4 : List Int) (a0_5 : ByteArray) (a0_6 : ByteArray) (a0_7 : Nat) : Option (Int) := (table_Family.f k a0_0).bind fun t188 => (if t188 = 0 then (some 60) else (if a0_1 ≥ 0 then (if a0_1 ≤ a0_2 then (table_Right.j0 k (decide (a0_2 ≤ 1114111)) a0_0 a0_1 a0_2 a0_3 l0_4 a0_5 a0_6 a0_7) else (table_Right.j0 k false a0_0 a0_1 a0_2 a0_3 l0_4 a0_5 a0_6 a0_7)) else (table_Right.j0 k false a0_0 a0_1 a0_2 a0_3 l0_4 a0_5 a0_6 a0_7)))
theorem table_Right.mono_l : ∀ k, (∀ y0 y1 y2 y3 y4 y5 y6 y7 y8, LeO (table_Right.j0 k y0 y1 y2 y3 y4 y5 y6 y7 y8) (table_Right.j0 (k + 1) y0 y1 y2 y3 y4 y5 y6 y7 y8))
 | 0 => fun _ _ _ _ _ _ _ _ _ r h => by simp [table_Right.j0] at h
 | k + 1 => by
  have ih0 := table_Right.mono_l k
  intro y0 y1 y2 y3 y4 y5 y6 y7 y8
  unfold table_Right.j0
  repeat' first | (with_reducible first | apply ih0 | apply table_Family.mono | apply table_fits.mono | apply LeO.refl | apply LeO.none | refine LeO.ite ?_ ?_ | refine LeO.bind ?_ (fun _ => ?_)) | apply LeO.none | refine LeO.ite ?_ ?_ | refine LeO.bind ?_ (fun _ => ?_)
theorem table_Right.mono : ∀ a0 a1 a2 a3 a4 a5 a6 a7 k, LeO (table_Right.f k a0 a1 a2 a3 a4 a5 a6 a7) (table_Right.f (k + 1) a0 a1 a2 a3 a4 a5 a6 a7) := by
 intro a0 a1 a2 a3 a4 a5 a6 a7 k
 have ih0 := table_Right.mono_l k
 unfold table_Right.f
 repeat' first | (with_reducible first | apply ih0 | apply table_Family.mono | apply table_fits.mono | apply LeO.refl | apply LeO.none | refine LeO.ite ?_ ?_ | refine LeO.bind ?_ (fun _ => ?_)) | apply LeO.none | refine LeO.ite ?_ ?_ | refine LeO.bind ?_ (fun _ => ?_)
theorem table_Right.calls (k : Nat) (a0_0 : Int) (a0_1 : Int) (a0_2 : Int) (a0_3 : Int) (A0_4 : Option Addr) (c0_4 : Nat) (l0_4 : List Int) (a0_5 : ByteArray) (a0_6 : ByteArray) (a0_7 : Nat) (r : Int) (w : World) (hr0_4 : Kd.C (Kd.int .i32) w A0_4 l0_4.length l0_4) (hc0_4 : l0_4.length ≤ c0_4) (h : table_Right.f k a0_0 a0_1 a0_2 a0_3 l0_4 a0_5 a0_6 a0_7 = some r) :
  Calls Tryz.prog 15 #[.agg #[.int .i64 a0_0, .int .i64 a0_1, .int .i64 a0_2, .int .i64 a0_3, .slice A0_4 l0_4.length c0_4, .string a0_5, .string a0_6, .float .f64 a0_7]] w fun e w' => e = .returned (.int .i64 r) ∧ Below w.heap.size w w' := by
 have hu25 := Tryz.underlying25
 have HR0_4 := Aside0.mk hr0_4
 have HC0_4 := Aside0.mk hc0_4
 clear hr0_4 hc0_4
 have HB := Aside0.mk (Below.refl w.heap.size w)
 have H : ((table_Family.f k a0_0).bind fun t188 => (if t188 = 0 then (some 60) else (if a0_1 ≥ 0 then (if a0_1 ≤ a0_2 then (table_Right.j0 k (decide (a0_2 ≤ 1114111)) a0_0 a0_1 a0_2 a0_3 l0_4 a0_5 a0_6 a0_7) else (table_Right.j0 k false a0_0 a0_1 a0_2 a0_3 l0_4 a0_5 a0_6 a0_7)) else (table_Right.j0 k false a0_0 a0_1 a0_2 a0_3 l0_4 a0_5 a0_6 a0_7)))) = some r := h
 clear h
 obtain ⟨t188, A2, H⟩ := sqO H
 try dsimp only at H
 by_cases c3 : t188 = 0
 ·rw [if_pos c3] at H
  have c3b0 := beq_iff_eq.mpr c3
  have c3b1 := bne_eq_false_iff_eq.mpr c3
  clear c3
  obtain rfl := Option.some.inj H
  go_enter Tryz.func15, Tryz.ntmps15
  go_wp2_with (first | ((with_reducible refine gate_dst (N := 1) rfl ?_); refine box_event ?hg (N := 1) ?hd (cs := #[.int .i64 a0_0, .int .i64 a0_1, .int .i64 a0_2, .int .i64 a0_3, .slice A0_4 l0_4.length c0_4, .string a0_5, .string a0_6, .float .f64 a0_7]) (t := 25) ?hr ?_; (case hd => rfl); (case hg => rfl); (case hr => first | (go_simp; done) | (go_simp; rfl)); intro gb187 hg w4 hbox hb; have n0_ := Aside0.mk (below_step sqB hb); have n1_ := Aside0.mk (hbox); have n2_ := Aside0.mk ((by rw [hg]; exact (below_size sqB) : w.heap.size ≤ gb187)); have n3_ := Aside0.mk ((by rw [hg]; exact (below_size sqB) : w.heap.size ≤ gb187)); clear HB; have HB := n0_; have BK187 := n1_; have GW187 := n2_; have GE187 := n3_; clear n0_ n1_ n2_ n3_; clear hb hbox hg; obtain ⟨z0, z1, z2, z3, z4, z5, z6, z7, y0, y1, y2, y3, y4, y5, y6, y7⟩ := box8 BK187.out) | ((with_reducible refine gate_callee (f := 32) rfl ?_); refine goesL_ (some 6) rfl rfl Tryz.func32 (by kernel_rfl) rfl #[.int .i64 a0_0] rfl sqA ?_; (with_reducible refine (table_Family.calls k a0_0 t188 _ A2.out).mono ?_); rintro e w' ⟨rfl, ⟨nd, rfl⟩⟩; refine ⟨_, rfl, ?_⟩))
  go_ret
  exact ⟨sqE', sqH⟩
 rw [if_neg c3] at H
 have c3b0 := beq_eq_false_iff_ne.mpr c3
 have c3b1 := bne_iff_ne.mpr c3
 have HC6 := Aside0.mk H
 clear H
 go_enter Tryz.func15, Tryz.ntmps15
 go_upto_region 3 with (first | ((with_reducible refine gate_dst (N := 1) rfl ?_); refine box_event ?hg (N := 1) ?hd (cs := #[.int .i64 a0_0, .int .i64 a0_1, .int .i64 a0_2, .int .i64 a0_3, .slice A0_4 l0_4.length c0_4, .string a0_5, .string a0_6, .float .f64 a0_7]) (t := 25) ?hr ?_; (case hd => rfl); (case hg => rfl); (case hr => first | (go_simp; done) | (go_simp; rfl)); intro gb187 hg w7 hbox hb; have n0_ := Aside0.mk (below_step sqB hb); have n1_ := Aside0.mk (hbox); have n2_ := Aside0.mk ((by rw [hg]; exact (below_size sqB) : w.heap.size ≤ gb187)); have n3_ := Aside0.mk ((by rw [hg]; exact (below_size sqB) : w.heap.size ≤ gb187)); clear HB; have HB := n0_; have BK187 := n1_; have GW187 := n2_; have GE187 := n3_; clear n0_ n1_ n2_ n3_; clear hb hbox hg; obtain ⟨z0, z1, z2, z3, z4, z5, z6, z7, y0, y1, y2, y3, y4, y5, y6, y7⟩ := box8 BK187.out) | ((with_reducible refine gate_callee (f := 32) rfl ?_); refine goesL_ (some 6) rfl rfl Tryz.func32 (by kernel_rfl) rfl #[.int .i64 a0_0] rfl sqA ?_; (with_reducible refine (table_Family.calls k a0_0 t188 _ A2.out).mono ?_); rintro e w' ⟨rfl, ⟨nd, rfl⟩⟩; refine ⟨_, rfl, ?_⟩))
 (try simp only [Act.put, List.setIfInBounds_toArray, List.set_cons_zero, List.set_cons_succ])
 go_cut [3] (fun v3 wc => ∃ (kq : Nat) (x3_5 : Bool), v3 = .bool x3_5 ∧ Aside0 (table_Right.j0 kq x3_5 a0_0 a0_1 a0_2 a0_3 l0_4 a0_5 a0_6 a0_7 = some r) ∧ Aside0 (kq ≤ k) ∧ Aside0 (wc.heap[gb187]? = some (.cells #[.int .i64 a0_0, .int .i64 a0_1, .int .i64 a0_2, .int .i64 a0_3, (.slice A0_4 l0_4.length c0_4), .string a0_5, .string a0_6, .float .f64 a0_7] 25 (0, 0))) ∧ Aside0 (Below w.heap.size w wc))
 case first =>
  have H := HC6.out
  clear HC6
  by_cases c9 : a0_1 ≥ 0
  case neg =>
   rw [if_neg c9] at H
   have c9b0 := decide_eq_false c9
   clear c9
   (first | rw [c9b0] | (simp only [i64_w, i32_w]; rw [c9b0]) | skip)
   have H' := Aside0.mk H
   clear H
   obtain ⟨z0, z1, z2, z3, z4, z5, z6, z7, y0, y1, y2, y3, y4, y5, y6, y7⟩ := box8 BK187.out
   go_wp2
   go_meet
   case rel => exact ⟨_, (false), sqE, H', ⟨by first | omega | exact Nat.le_refl _⟩, ⟨by (with_reducible repeat (first | refine blk_drewN ?_ _ | refine blk_drew ?_ | refine blk_alloc ?_ _)); exact BK187.out⟩, ⟨sqH⟩⟩
  rw [if_pos c9] at H
  have c9b0 := decide_eq_true c9
  clear c9
  (first | rw [c9b0] | (simp only [i64_w, i32_w]; rw [c9b0]) | skip)
  by_cases c10 : a0_1 ≤ a0_2
  ·rw [if_pos c10] at H
   have c10b0 := decide_eq_true c10
   clear c10
   have H' := Aside0.mk H
   clear H
   obtain ⟨z0, z1, z2, z3, z4, z5, z6, z7, y0, y1, y2, y3, y4, y5, y6, y7⟩ := box8 BK187.out
   go_wp2
   go_meet
   case rel => exact ⟨_, (decide (a0_2 ≤ 1114111)), sqE, H', ⟨by first | omega | exact Nat.le_refl _⟩, ⟨by (with_reducible repeat (first | refine blk_drewN ?_ _ | refine blk_drew ?_ | refine blk_alloc ?_ _)); exact BK187.out⟩, ⟨sqH⟩⟩
  rw [if_neg c10] at H
  have c10b0 := decide_eq_false c10
  clear c10
  have H' := Aside0.mk H
  clear H
  obtain ⟨z0, z1, z2, z3, z4, z5, z6, z7, y0, y1, y2, y3, y4, y5, y6, y7⟩ := box8 BK187.out
  go_wp2
  go_meet
  case rel => exact ⟨_, (false), sqE, H', ⟨by first | omega | exact Nat.le_refl _⟩, ⟨by (with_reducible repeat (first | refine blk_drewN ?_ _ | refine blk_drew ?_ | refine blk_alloc ?_ _)); exact BK187.out⟩, ⟨sqH⟩⟩
 case rest =>
  clear HC6
  try clear c3
  try clear c3b0
  try clear c3b1
  obtain ⟨kq, x3_5, rfl, HA, HJ5, BK187, HB⟩ := hcut
  cases kq with
  | zero => exact absurd HA.out (by simp [table_Right.j0])
  | succ kj5 =>
   have H := HA.out
   clear HA
   simp only [table_Right.j0] at H
   by_cases c14 : a0_0 = 15
   case neg =>
    rw [if_neg c14] at H
    have c14b0 := beq_eq_false_iff_ne.mpr c14
    have c14b1 := bne_iff_ne.mpr c14
    by_cases c25 : x3_5 = true
    case neg =>
     replace c25 := Bool.eq_false_iff.mpr c25
     subst c25
     rw [if_neg (show ¬ (false = true) by decide)] at H
     obtain rfl := Option.some.inj H
     obtain ⟨z0, z1, z2, z3, z4, z5, z6, z7, y0, y1, y2, y3, y4, y5, y6, y7⟩ := box8 BK187.out
     go_wp2
     go_ret
     exact ⟨sqE', sqH⟩
    subst c25
    rw [if_pos rfl] at H
    obtain ⟨t190, A26, H⟩ := sqO H
    try dsimp only at H
    by_cases c27 : t190 = true
    ·subst c27
     rw [if_pos rfl] at H
     obtain rfl := Option.some.inj H
     obtain ⟨z0, z1, z2, z3, z4, z5, z6, z7, y0, y1, y2, y3, y4, y5, y6, y7⟩ := box8 BK187.out
     go_wp2_with (first | (go_at_call 35; (with_reducible refine (table_fits.calls kj5 a0_0 a0_1 a0_2 a0_3 _ _ l0_4 a0_5 a0_6 a0_7 true _ ?side1 ?side2 A26.out).mono ?_); (case side1 => exact sqC (Kd.C_below HR0_4.out HB.out)); (case side2 => exact HC0_4.out); rintro e w29 ⟨rfl, hb⟩; replace BK187 := Aside0.mk (sqM BK187.out hb); replace HB := Aside0.mk (below_step sqH hb); (try clear hb)))
     go_ret
     exact ⟨sqE', sqH⟩
    replace c27 := Bool.eq_false_iff.mpr c27
    subst c27
    rw [if_neg (show ¬ (false = true) by decide)] at H
    obtain rfl := Option.some.inj H
    obtain ⟨z0, z1, z2, z3, z4, z5, z6, z7, y0, y1, y2, y3, y4, y5, y6, y7⟩ := box8 BK187.out
    go_wp2_with (first | (go_at_call 35; (with_reducible refine (table_fits.calls kj5 a0_0 a0_1 a0_2 a0_3 _ _ l0_4 a0_5 a0_6 a0_7 false _ ?side1 ?side2 A26.out).mono ?_); (case side1 => exact sqC (Kd.C_below HR0_4.out HB.out)); (case side2 => exact HC0_4.out); rintro e w31 ⟨rfl, hb⟩; replace BK187 := Aside0.mk (sqM BK187.out hb); replace HB := Aside0.mk (below_step sqH hb); (try clear hb)))
    go_ret
    exact ⟨sqE', sqH⟩
   rw [if_pos c14] at H
   have c14b0 := beq_iff_eq.mpr c14
   have c14b1 := bne_eq_false_iff_eq.mpr c14
   clear c14
   by_cases c15 : a0_1 = 0
   case neg =>
    rw [if_neg c15] at H
    have c15b0 := beq_eq_false_iff_ne.mpr c15
    have c15b1 := bne_iff_ne.mpr c15
    obtain rfl := Option.some.inj H
    obtain ⟨z0, z1, z2, z3, z4, z5, z6, z7, y0, y1, y2, y3, y4, y5, y6, y7⟩ := box8 BK187.out
    go_wp2
    go_ret
    exact ⟨sqE', sqH⟩
   rw [if_pos c15] at H
   have c15b0 := beq_iff_eq.mpr c15
   have c15b1 := bne_eq_false_iff_eq.mpr c15
   clear c15
   by_cases c16 : a0_2 = 0
   case neg =>
    rw [if_neg c16] at H
    have c16b0 := beq_eq_false_iff_ne.mpr c16
    have c16b1 := bne_iff_ne.mpr c16
    obtain rfl := Option.some.inj H
    obtain ⟨z0, z1, z2, z3, z4, z5, z6, z7, y0, y1, y2, y3, y4, y5, y6, y7⟩ := box8 BK187.out
    go_wp2
    go_ret
    exact ⟨sqE', sqH⟩
   rw [if_pos c16] at H
   have c16b0 := beq_iff_eq.mpr c16
   have c16b1 := bne_eq_false_iff_eq.mpr c16
   clear c16
   obtain ⟨t189, A17, H⟩ := sqO H
   try dsimp only at H
   by_cases c18 : t189 = true
   ·subst c18
    rw [if_pos rfl] at H
    obtain rfl := Option.some.inj H
    obtain ⟨z0, z1, z2, z3, z4, z5, z6, z7, y0, y1, y2, y3, y4, y5, y6, y7⟩ := box8 BK187.out
    go_wp2_with (first | (go_at_call 35; (with_reducible refine (table_fits.calls kj5 a0_0 a0_1 a0_2 a0_3 _ _ l0_4 a0_5 a0_6 a0_7 true _ ?side1 ?side2 A17.out).mono ?_); (case side1 => exact sqC (Kd.C_below HR0_4.out HB.out)); (case side2 => exact HC0_4.out); rintro e w20 ⟨rfl, hb⟩; replace BK187 := Aside0.mk (sqM BK187.out hb); replace HB := Aside0.mk (below_step sqH hb); (try clear hb)))
    go_ret
    exact ⟨sqE', sqH⟩
   replace c18 := Bool.eq_false_iff.mpr c18
   subst c18
   rw [if_neg (show ¬ (false = true) by decide)] at H
   obtain rfl := Option.some.inj H
   obtain ⟨z0, z1, z2, z3, z4, z5, z6, z7, y0, y1, y2, y3, y4, y5, y6, y7⟩ := box8 BK187.out
   go_wp2_with (first | (go_at_call 35; (with_reducible refine (table_fits.calls kj5 a0_0 a0_1 a0_2 a0_3 _ _ l0_4 a0_5 a0_6 a0_7 false _ ?side1 ?side2 A17.out).mono ?_); (case side1 => exact sqC (Kd.C_below HR0_4.out HB.out)); (case side2 => exact HC0_4.out); rintro e w22 ⟨rfl, hb⟩; replace BK187 := Aside0.mk (sqM BK187.out hb); replace HB := Aside0.mk (below_step sqH hb); (try clear hb)))
   go_ret
   exact ⟨sqE', sqH⟩
def table_speaks.f (a0_0 : Int) (a0_1 : Int) (a0_2 : Int) (a0_3 : Int) (l0_4 : List Int) (a0_5 : ByteArray) (a0_6 : ByteArray) (a0_7 : Nat) (a1 : Int) : Option (Bool) := if a1 < a0_1 then (some false) else (if a1 > a0_2 then (some false) else (if a1 < 0 then (some false) else (if a1 > 1114111 then (some false) else (if a0_0 = 4 then (if a0_3 > 0 then (if (IntKind.u64.wrap (a0_3)) = 0 then (none) else (some ((Int.tmod (IntKind.u64.wrap ((IntKind.u64.wrap (a1)) - (IntKind.u64.wrap (a0_1)))) (IntKind.u64.wrap (a0_3))) == 0))) else (some false)) else (some true)))))
theorem table_speaks.calls (a0_0 : Int) (a0_1 : Int) (a0_2 : Int) (a0_3 : Int) (A0_4 : Option Addr) (c0_4 : Nat) (l0_4 : List Int) (a0_5 : ByteArray) (a0_6 : ByteArray) (a0_7 : Nat) (a1 : Int) (r : Bool) (w : World) (hr0_4 : Kd.C (Kd.int .i32) w A0_4 l0_4.length l0_4) (hc0_4 : l0_4.length ≤ c0_4) (h : table_speaks.f a0_0 a0_1 a0_2 a0_3 l0_4 a0_5 a0_6 a0_7 a1 = some r) :
  Calls Tryz.prog 70 #[.agg #[.int .i64 a0_0, .int .i64 a0_1, .int .i64 a0_2, .int .i64 a0_3, .slice A0_4 l0_4.length c0_4, .string a0_5, .string a0_6, .float .f64 a0_7], .int .i64 a1] w fun e w' => e = .returned (.bool r) ∧ Below w.heap.size w w' := by
 have hu25 := Tryz.underlying25
 have HR0_4 := Aside0.mk hr0_4
 have HC0_4 := Aside0.mk hc0_4
 clear hr0_4 hc0_4
 have HB := Aside0.mk (Below.refl w.heap.size w)
 have H : (if a1 < a0_1 then (some false) else (if a1 > a0_2 then (some false) else (if a1 < 0 then (some false) else (if a1 > 1114111 then (some false) else (if a0_0 = 4 then (if a0_3 > 0 then (if (IntKind.u64.wrap (a0_3)) = 0 then (none) else (some ((Int.tmod (IntKind.u64.wrap ((IntKind.u64.wrap (a1)) - (IntKind.u64.wrap (a0_1)))) (IntKind.u64.wrap (a0_3))) == 0))) else (some false)) else (some true)))))) = some r := h
 clear h
 go_enter Tryz.func70, Tryz.ntmps70
 go_upto_region 1 with (first | ((with_reducible refine gate_dst (N := 2) rfl ?_); refine box_event ?hg (N := 2) ?hd (cs := #[.int .i64 a0_0, .int .i64 a0_1, .int .i64 a0_2, .int .i64 a0_3, .slice A0_4 l0_4.length c0_4, .string a0_5, .string a0_6, .float .f64 a0_7]) (t := 25) ?hr ?_; (case hd => rfl); (case hg => rfl); (case hr => first | (go_simp; done) | (go_simp; rfl)); intro gb191 hg w10 hbox hb; have n0_ := Aside0.mk (below_step sqB hb); have n1_ := Aside0.mk (hbox); have n2_ := Aside0.mk ((by rw [hg]; exact (below_size sqB) : w.heap.size ≤ gb191)); have n3_ := Aside0.mk ((by rw [hg]; exact (below_size sqB) : w.heap.size ≤ gb191)); clear HB; have HB := n0_; have BK191 := n1_; have GW191 := n2_; have GE191 := n3_; clear n0_ n1_ n2_ n3_; clear hb hbox hg; obtain ⟨z0, z1, z2, z3, z4, z5, z6, z7, y0, y1, y2, y3, y4, y5, y6, y7⟩ := box8 BK191.out))
 by_cases c3 : a1 < a0_1
 ·rw [if_pos c3] at H
  have c3b0 := decide_eq_true c3
  clear c3
  obtain rfl := Option.some.inj H
  go_wp2
  go_ret
  exact ⟨sqE', sqH⟩
 rw [if_neg c3] at H
 have c3b0 := decide_eq_false c3
 clear c3
 by_cases c6 : a1 > a0_2
 ·rw [if_pos c6] at H
  have c6b0 := decide_eq_true c6
  clear c6
  obtain rfl := Option.some.inj H
  go_wp2
  go_ret
  exact ⟨sqE', sqH⟩
 rw [if_neg c6] at H
 have c6b0 := decide_eq_false c6
 clear c6
 by_cases c9 : a1 < 0
 ·rw [if_pos c9] at H
  have c9b0 := decide_eq_true c9
  clear c9
  obtain rfl := Option.some.inj H
  go_wp2
  go_ret
  exact ⟨sqE', sqH⟩
 rw [if_neg c9] at H
 have c9b0 := decide_eq_false c9
 clear c9
 by_cases c12 : a1 > 1114111
 ·rw [if_pos c12] at H
  have c12b0 := decide_eq_true c12
  clear c12
  obtain rfl := Option.some.inj H
  go_wp2
  go_ret
  exact ⟨sqE', sqH⟩
 rw [if_neg c12] at H
 have c12b0 := decide_eq_false c12
 clear c12
 by_cases c15 : a0_0 = 4
 case neg =>
  rw [if_neg c15] at H
  have c15b0 := beq_eq_false_iff_ne.mpr c15
  have c15b1 := bne_iff_ne.mpr c15
  obtain rfl := Option.some.inj H
  go_wp2
  go_ret
  exact ⟨sqE', sqH⟩
 rw [if_pos c15] at H
 have c15b0 := beq_iff_eq.mpr c15
 have c15b1 := bne_eq_false_iff_eq.mpr c15
 clear c15
 by_cases c16 : a0_3 > 0
 case neg =>
  rw [if_neg c16] at H
  have c16b0 := decide_eq_false c16
  clear c16
  obtain rfl := Option.some.inj H
  go_wp2
  go_ret
  exact ⟨sqE', sqH⟩
 rw [if_pos c16] at H
 have c16b0 := decide_eq_true c16
 clear c16
 by_cases c17 : (IntKind.u64.wrap (a0_3)) = 0
 ·rw [if_pos c17] at H
  exact absurd H (by simp)
 rw [if_neg c17] at H
 have c17b0 := beq_eq_false_iff_ne.mpr c17
 have c17b1 := bne_iff_ne.mpr c17
 obtain rfl := Option.some.inj H
 go_wp2
 go_ret
 exact ⟨sqE', sqH⟩
end Go.Proofs.YtnoppeocbfapdaaGreatDoor.T
