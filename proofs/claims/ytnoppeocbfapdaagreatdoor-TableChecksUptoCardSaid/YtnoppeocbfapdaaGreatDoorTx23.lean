import Derived.Test.YtnoppeocbfapdaaGreatDoorTx0
import Derived.Test.YtnoppeocbfapdaaGreatDoorTx18
import Derived.Test.YtnoppeocbfapdaaGreatDoorTx22
namespace Go.Proofs.YtnoppeocbfapdaaGreatDoor.T
open Go.RowKit Go.Proofs.YtnoppeocbfapdaaGreatDoorW.PrintWords Go.Proofs.YtnoppeocbfapdaaGreatDoorW.PrintLast Go.Proofs.YtnoppeocbfapdaaGreatDoorW.PrintMore
set_option maxHeartbeats 8000000
set_option maxRecDepth 100000
attribute [local go_sem] max2_int min2_int max_two min_two max_three min_three max_four min_four
set_option linter.unusedVariables false
set_option linter.unusedSimpArgs false
mutual
def endonymref6_clash.j0 : Nat → Int → Int → Int → Int → Int → Int → Int → List Int → ByteArray → ByteArray → Nat → Option (Bool)
 | 0, _, _, _, _, _, _, _, _, _, _, _ => none
 | k + 1, x6, x7, x8, x607000, x607001, x607002, x607003, x607004, x607005, x607006, x607007 => endonymref6_clash.l0 k x6 x7 x8 0 x607000 x607001 x607002 x607003 x607004 x607005 x607006 x607007
def endonymref6_clash.l0 : Nat → Int → Int → Int → Int → Int → Int → Int → Int → List Int → ByteArray → ByteArray → Nat → Option (Bool)
 | 0, _, _, _, _, _, _, _, _, _, _, _, _ => none
 | k + 1, x6, x7, x8, x9, x607000, x607001, x607002, x607003, x607004, x607005, x607006, x607007 => if x9 < 64 then (endonymref6_clash.j2 k x6 x7 x8 x9 (decide (x8 ≤ x6)) x607000 x607001 x607002 x607003 x607004 x607005 x607006 x607007) else (endonymref6_clash.j2 k x6 x7 x8 x9 false x607000 x607001 x607002 x607003 x607004 x607005 x607006 x607007)
def endonymref6_clash.j2 : Nat → Int → Int → Int → Int → Bool → Int → Int → Int → Int → List Int → ByteArray → ByteArray → Nat → Option (Bool)
 | 0, _, _, _, _, _, _, _, _, _, _, _, _, _ => none
 | k + 1, x6, x7, x8, x9, x84, x607000, x607001, x607002, x607003, x607004, x607005, x607006, x607007 => if x84 = true then ((endonymref6_Speaks.f x607000 x607001 x607002 x607003 x607004 x607005 x607006 x607007 x8).bind fun t610 => (if t610 = true then (some true) else (endonymref6_clash.l0 k x6 x7 (wrap64 (x8 + x7)) (wrap64 (x9 + 1)) x607000 x607001 x607002 x607003 x607004 x607005 x607006 x607007))) else (some false)
end
def endonymref6_clash.f (k : Nat) (a0_0 : Int) (a0_1 : Int) (a0_2 : Int) (a0_3 : Int) (l0_4 : List Int) (a0_5 : ByteArray) (a0_6 : ByteArray) (a0_7 : Nat) (a1_0 : Int) (a1_1 : Int) (a1_2 : Int) (a1_3 : Int) (l1_4 : List Int) (a1_5 : ByteArray) (a1_6 : ByteArray) (a1_7 : Nat) : Option (Bool) := (endonymref6_Family.f a0_0).bind fun t607 => ((endonymref6_Family.f a1_0).bind fun t608 => (if t607 = t608 then (if a0_0 = 15 then (if a0_5.toList = a1_5.toList then (if a0_6.toList = a1_6.toList then (some true) else (if a0_5.toList = a1_6.toList then (some (a0_6.toList == a1_5.toList)) else (some false))) else (if a0_5.toList = a1_6.toList then (some (a0_6.toList == a1_5.toList)) else (some false))) else ((endonymref6_step.f a0_0 a0_1 a0_2 a0_3 l0_4 a0_5 a0_6 a0_7).bind fun t609 => (if (mx a0_1 a1_1) > a0_1 then (if t609 = 0 then (none) else (endonymref6_clash.j0 k (mn a0_2 a1_2) t609 (wrap64 (a0_1 + (wrap64 ((wrap64 (Int.tdiv (wrap64 ((wrap64 ((wrap64 ((mx a0_1 a1_1) - a0_1)) + t609)) - 1)) t609)) * t609)))) a1_0 a1_1 a1_2 a1_3 l1_4 a1_5 a1_6 a1_7)) else (endonymref6_clash.j0 k (mn a0_2 a1_2) t609 a0_1 a1_0 a1_1 a1_2 a1_3 l1_4 a1_5 a1_6 a1_7)))) else (some false)))
theorem endonymref6_clash.mono_l : ∀ k, (∀ y0 y1 y2 y3 y4 y5 y6 y7 y8 y9 y10, LeO (endonymref6_clash.j0 k y0 y1 y2 y3 y4 y5 y6 y7 y8 y9 y10) (endonymref6_clash.j0 (k + 1) y0 y1 y2 y3 y4 y5 y6 y7 y8 y9 y10)) ∧ (∀ y0 y1 y2 y3 y4 y5 y6 y7 y8 y9 y10 y11, LeO (endonymref6_clash.l0 k y0 y1 y2 y3 y4 y5 y6 y7 y8 y9 y10 y11) (endonymref6_clash.l0 (k + 1) y0 y1 y2 y3 y4 y5 y6 y7 y8 y9 y10 y11)) ∧ (∀ y0 y1 y2 y3 y4 y5 y6 y7 y8 y9 y10 y11 y12, LeO (endonymref6_clash.j2 k y0 y1 y2 y3 y4 y5 y6 y7 y8 y9 y10 y11 y12) (endonymref6_clash.j2 (k + 1) y0 y1 y2 y3 y4 y5 y6 y7 y8 y9 y10 y11 y12))
 | 0 => ⟨fun _ _ _ _ _ _ _ _ _ _ _ r h => by simp [endonymref6_clash.j0] at h, fun _ _ _ _ _ _ _ _ _ _ _ _ r h => by simp [endonymref6_clash.l0] at h, fun _ _ _ _ _ _ _ _ _ _ _ _ _ r h => by simp [endonymref6_clash.j2] at h⟩
 | k + 1 => by
  obtain ⟨ih0, ih1, ih2⟩ := endonymref6_clash.mono_l k
  refine ⟨?_, ?_, ?_⟩
  ·intro y0 y1 y2 y3 y4 y5 y6 y7 y8 y9 y10
   unfold endonymref6_clash.j0
   repeat' first | (with_reducible first | apply ih0 | apply ih1 | apply ih2 | apply LeO.refl | apply LeO.none | refine LeO.ite ?_ ?_ | refine LeO.bind ?_ (fun _ => ?_)) | apply LeO.none | refine LeO.ite ?_ ?_ | refine LeO.bind ?_ (fun _ => ?_)
  ·intro y0 y1 y2 y3 y4 y5 y6 y7 y8 y9 y10 y11
   unfold endonymref6_clash.l0
   repeat' first | (with_reducible first | apply ih0 | apply ih1 | apply ih2 | apply LeO.refl | apply LeO.none | refine LeO.ite ?_ ?_ | refine LeO.bind ?_ (fun _ => ?_)) | apply LeO.none | refine LeO.ite ?_ ?_ | refine LeO.bind ?_ (fun _ => ?_)
  intro y0 y1 y2 y3 y4 y5 y6 y7 y8 y9 y10 y11 y12
  unfold endonymref6_clash.j2
  repeat' first | (with_reducible first | apply ih0 | apply ih1 | apply ih2 | apply LeO.refl | apply LeO.none | refine LeO.ite ?_ ?_ | refine LeO.bind ?_ (fun _ => ?_)) | apply LeO.none | refine LeO.ite ?_ ?_ | refine LeO.bind ?_ (fun _ => ?_)
theorem endonymref6_clash.mono : ∀ a0 a1 a2 a3 a4 a5 a6 a7 a8 a9 a10 a11 a12 a13 a14 a15 k, LeO (endonymref6_clash.f k a0 a1 a2 a3 a4 a5 a6 a7 a8 a9 a10 a11 a12 a13 a14 a15) (endonymref6_clash.f (k + 1) a0 a1 a2 a3 a4 a5 a6 a7 a8 a9 a10 a11 a12 a13 a14 a15) := by
 intro a0 a1 a2 a3 a4 a5 a6 a7 a8 a9 a10 a11 a12 a13 a14 a15 k
 obtain ⟨ih0, ih1, ih2⟩ := endonymref6_clash.mono_l k
 unfold endonymref6_clash.f
 repeat' first | (with_reducible first | apply ih0 | apply ih1 | apply ih2 | apply LeO.refl | apply LeO.none | refine LeO.ite ?_ ?_ | refine LeO.bind ?_ (fun _ => ?_)) | apply LeO.none | refine LeO.ite ?_ ?_ | refine LeO.bind ?_ (fun _ => ?_)
theorem endonymref6_clash.calls (k : Nat) (a0_0 : Int) (a0_1 : Int) (a0_2 : Int) (a0_3 : Int) (A0_4 : Option Addr) (c0_4 : Nat) (l0_4 : List Int) (a0_5 : ByteArray) (a0_6 : ByteArray) (a0_7 : Nat) (a1_0 : Int) (a1_1 : Int) (a1_2 : Int) (a1_3 : Int) (A1_4 : Option Addr) (c1_4 : Nat) (l1_4 : List Int) (a1_5 : ByteArray) (a1_6 : ByteArray) (a1_7 : Nat) (r : Bool) (w : World) (hr0_4 : Kd.C (Kd.int .i32) w A0_4 l0_4.length l0_4) (hc0_4 : l0_4.length ≤ c0_4) (hr1_4 : Kd.C (Kd.int .i32) w A1_4 l1_4.length l1_4) (hc1_4 : l1_4.length ≤ c1_4) (h : endonymref6_clash.f k a0_0 a0_1 a0_2 a0_3 l0_4 a0_5 a0_6 a0_7 a1_0 a1_1 a1_2 a1_3 l1_4 a1_5 a1_6 a1_7 = some r) :
  Calls Tryz.prog 59 #[.agg #[.int .i64 a0_0, .int .i64 a0_1, .int .i64 a0_2, .int .i64 a0_3, .slice A0_4 l0_4.length c0_4, .string a0_5, .string a0_6, .float .f64 a0_7], .agg #[.int .i64 a1_0, .int .i64 a1_1, .int .i64 a1_2, .int .i64 a1_3, .slice A1_4 l1_4.length c1_4, .string a1_5, .string a1_6, .float .f64 a1_7]] w fun e w' => e = .returned (.bool r) ∧ Below w.heap.size w w' := by
 have hu25 := Tryz.underlying25
 have HR0_4 := Aside0.mk hr0_4
 have HC0_4 := Aside0.mk hc0_4
 clear hr0_4 hc0_4
 have HR1_4 := Aside0.mk hr1_4
 have HC1_4 := Aside0.mk hc1_4
 clear hr1_4 hc1_4
 have HB := Aside0.mk (Below.refl w.heap.size w)
 have H : ((endonymref6_Family.f a0_0).bind fun t607 => ((endonymref6_Family.f a1_0).bind fun t608 => (if t607 = t608 then (if a0_0 = 15 then (if a0_5.toList = a1_5.toList then (if a0_6.toList = a1_6.toList then (some true) else (if a0_5.toList = a1_6.toList then (some (a0_6.toList == a1_5.toList)) else (some false))) else (if a0_5.toList = a1_6.toList then (some (a0_6.toList == a1_5.toList)) else (some false))) else ((endonymref6_step.f a0_0 a0_1 a0_2 a0_3 l0_4 a0_5 a0_6 a0_7).bind fun t609 => (if (mx a0_1 a1_1) > a0_1 then (if t609 = 0 then (none) else (endonymref6_clash.j0 k (mn a0_2 a1_2) t609 (wrap64 (a0_1 + (wrap64 ((wrap64 (Int.tdiv (wrap64 ((wrap64 ((wrap64 ((mx a0_1 a1_1) - a0_1)) + t609)) - 1)) t609)) * t609)))) a1_0 a1_1 a1_2 a1_3 l1_4 a1_5 a1_6 a1_7)) else (endonymref6_clash.j0 k (mn a0_2 a1_2) t609 a0_1 a1_0 a1_1 a1_2 a1_3 l1_4 a1_5 a1_6 a1_7)))) else (some false)))) = some r := h
 clear h
 obtain ⟨t607, A3, H⟩ := sqO H
 try dsimp only at H
 obtain ⟨t608, A4, H⟩ := sqO H
 try dsimp only at H
 by_cases c5 : t607 = t608
 case neg =>
  rw [if_neg c5] at H
  have c5b0 := beq_eq_false_iff_ne.mpr c5
  have c5b1 := bne_iff_ne.mpr c5
  obtain rfl := Option.some.inj H
  go_enter Tryz.func59, Tryz.ntmps59
  go_wp2_with (first | ((with_reducible refine gate_dst (N := 2) rfl ?_); refine box_event ?hg (N := 2) ?hd (cs := #[.int .i64 a0_0, .int .i64 a0_1, .int .i64 a0_2, .int .i64 a0_3, .slice A0_4 l0_4.length c0_4, .string a0_5, .string a0_6, .float .f64 a0_7]) (t := 25) ?hr ?_; (case hd => rfl); (case hg => rfl); (case hr => first | (go_simp; done) | (go_simp; rfl)); intro gb605 hg w62 hbox hb; have n0_ := Aside0.mk (below_step sqB hb); have n1_ := Aside0.mk (hbox); have n2_ := Aside0.mk ((by rw [hg]; exact (below_size sqB) : w.heap.size ≤ gb605)); have n3_ := Aside0.mk ((by rw [hg]; exact (below_size sqB) : w.heap.size ≤ gb605)); clear HB; have HB := n0_; have BK605 := n1_; have GW605 := n2_; have GE605 := n3_; clear n0_ n1_ n2_ n3_; clear hb hbox hg) | ((with_reducible refine gate_dst (N := 3) rfl ?_); refine box_event ?hg (N := 3) ?hd (cs := #[.int .i64 a1_0, .int .i64 a1_1, .int .i64 a1_2, .int .i64 a1_3, .slice A1_4 l1_4.length c1_4, .string a1_5, .string a1_6, .float .f64 a1_7]) (t := 25) ?hr ?_; (case hd => rfl); (case hg => rfl); (case hr => first | (go_simp; done) | (go_simp; rfl)); intro gb606 hg w63 hbox hb; have n0_ := Aside0.mk (sqM BK605.out hb); have n1_ := Aside0.mk (below_step sqH hb); have n2_ := Aside0.mk (hbox); have n3_ := Aside0.mk ((by rw [hg]; exact (below_size sqH) : w.heap.size ≤ gb606)); have n4_ := Aside0.mk ((by rw [hg]; exact (below_size sqH) : w.heap.size ≤ gb606)); have n5_ := Aside0.mk ((by rw [hg]; exact Nat.ne_of_lt (blk_lt (g := gb605) (o := .cells #[.int .i64 a0_0, .int .i64 a0_1, .int .i64 a0_2, .int .i64 a0_3, .slice A0_4 l0_4.length c0_4, .string a0_5, .string a0_6, .float .f64 a0_7] 25 (0, 0)) (sqK BK605.out)) : gb605 ≠ gb606)); have n6_ := Aside0.mk ((by rw [hg]; exact Nat.ne_of_gt (blk_lt (g := gb605) (o := .cells #[.int .i64 a0_0, .int .i64 a0_1, .int .i64 a0_2, .int .i64 a0_3, .slice A0_4 l0_4.length c0_4, .string a0_5, .string a0_6, .float .f64 a0_7] 25 (0, 0)) (sqK BK605.out)) : gb606 ≠ gb605)); clear BK605; clear HB; have BK605 := n0_; have HB := n1_; have BK606 := n2_; have GW606 := n3_; have GE606 := n4_; have NB605_606 := n5_; have NB606_605 := n6_; clear n0_ n1_ n2_ n3_ n4_ n5_ n6_; clear hb hbox hg; have hnb64 := NB605_606.out; have hnc64 := NB606_605.out; obtain ⟨z0, z1, z2, z3, z4, z5, z6, z7, y0, y1, y2, y3, y4, y5, y6, y7⟩ := box8 BK605.out) | (go_at_call 33; (with_reducible refine (endonymref6_Family.calls a0_0 t607 _ A3.out).mono ?_); rintro e w' ⟨rfl, ⟨nd, rfl⟩⟩; (try first | exact ⟨rfl, _, World.drewN_drewN _ _ _⟩ | exact ⟨rfl, _, Eq.trans (World.drewN_drewN _ _ _) (congrArg (World.drewN _) (Nat.add_assoc _ _ _))⟩); obtain ⟨z0, z1, z2, z3, z4, z5, z6, z7, y0, y1, y2, y3, y4, y5, y6, y7⟩ := box8 BK606.out) | (go_at_call 33; (with_reducible refine (endonymref6_Family.calls a1_0 t608 _ A4.out).mono ?_); rintro e w' ⟨rfl, ⟨nd, rfl⟩⟩; (try first | exact ⟨rfl, _, World.drewN_drewN _ _ _⟩ | exact ⟨rfl, _, Eq.trans (World.drewN_drewN _ _ _) (congrArg (World.drewN _) (Nat.add_assoc _ _ _))⟩)))
  repeat (go_quiet (first | (go_at_call 33; (with_reducible refine (endonymref6_Family.calls a0_0 t607 _ A3.out).mono ?_); rintro e w' ⟨rfl, ⟨nd, rfl⟩⟩; (try first | exact ⟨rfl, _, World.drewN_drewN _ _ _⟩ | exact ⟨rfl, _, Eq.trans (World.drewN_drewN _ _ _) (congrArg (World.drewN _) (Nat.add_assoc _ _ _))⟩); obtain ⟨z0, z1, z2, z3, z4, z5, z6, z7, y0, y1, y2, y3, y4, y5, y6, y7⟩ := box8 BK606.out) | (go_at_call 33; (with_reducible refine (endonymref6_Family.calls a1_0 t608 _ A4.out).mono ?_); rintro e w' ⟨rfl, ⟨nd, rfl⟩⟩; (try first | exact ⟨rfl, _, World.drewN_drewN _ _ _⟩ | exact ⟨rfl, _, Eq.trans (World.drewN_drewN _ _ _) (congrArg (World.drewN _) (Nat.add_assoc _ _ _))⟩))); try go_wp2_with (first | (go_at_call 33; (with_reducible refine (endonymref6_Family.calls a0_0 t607 _ A3.out).mono ?_); rintro e w' ⟨rfl, ⟨nd, rfl⟩⟩; (try first | exact ⟨rfl, _, World.drewN_drewN _ _ _⟩ | exact ⟨rfl, _, Eq.trans (World.drewN_drewN _ _ _) (congrArg (World.drewN _) (Nat.add_assoc _ _ _))⟩); obtain ⟨z0, z1, z2, z3, z4, z5, z6, z7, y0, y1, y2, y3, y4, y5, y6, y7⟩ := box8 BK606.out) | (go_at_call 33; (with_reducible refine (endonymref6_Family.calls a1_0 t608 _ A4.out).mono ?_); rintro e w' ⟨rfl, ⟨nd, rfl⟩⟩; (try first | exact ⟨rfl, _, World.drewN_drewN _ _ _⟩ | exact ⟨rfl, _, Eq.trans (World.drewN_drewN _ _ _) (congrArg (World.drewN _) (Nat.add_assoc _ _ _))⟩))))
  go_ret
  exact ⟨sqE', sqH⟩
 rw [if_pos c5] at H
 have c5b0 := beq_iff_eq.mpr c5
 have c5b1 := bne_eq_false_iff_eq.mpr c5
 clear c5
 by_cases c6 : a0_0 = 15
 ·rw [if_pos c6] at H
  have c6b0 := beq_iff_eq.mpr c6
  have c6b1 := bne_eq_false_iff_eq.mpr c6
  clear c6
  by_cases c7 : a0_5.toList = a1_5.toList
  case neg =>
   rw [if_neg c7] at H
   have c7b0 := beq_eq_false_iff_ne.mpr c7
   have c7b1 := bne_iff_ne.mpr c7
   by_cases c25 : a0_5.toList = a1_6.toList
   ·rw [if_pos c25] at H
    have c25b0 := beq_iff_eq.mpr c25
    have c25b1 := bne_eq_false_iff_eq.mpr c25
    clear c25
    obtain rfl := Option.some.inj H
    go_enter Tryz.func59, Tryz.ntmps59
    go_wp2_with (first | ((with_reducible refine gate_dst (N := 2) rfl ?_); refine box_event ?hg (N := 2) ?hd (cs := #[.int .i64 a0_0, .int .i64 a0_1, .int .i64 a0_2, .int .i64 a0_3, .slice A0_4 l0_4.length c0_4, .string a0_5, .string a0_6, .float .f64 a0_7]) (t := 25) ?hr ?_; (case hd => rfl); (case hg => rfl); (case hr => first | (go_simp; done) | (go_simp; rfl)); intro gb605 hg w26 hbox hb; have n0_ := Aside0.mk (below_step sqB hb); have n1_ := Aside0.mk (hbox); have n2_ := Aside0.mk ((by rw [hg]; exact (below_size sqB) : w.heap.size ≤ gb605)); have n3_ := Aside0.mk ((by rw [hg]; exact (below_size sqB) : w.heap.size ≤ gb605)); clear HB; have HB := n0_; have BK605 := n1_; have GW605 := n2_; have GE605 := n3_; clear n0_ n1_ n2_ n3_; clear hb hbox hg) | ((with_reducible refine gate_dst (N := 3) rfl ?_); refine box_event ?hg (N := 3) ?hd (cs := #[.int .i64 a1_0, .int .i64 a1_1, .int .i64 a1_2, .int .i64 a1_3, .slice A1_4 l1_4.length c1_4, .string a1_5, .string a1_6, .float .f64 a1_7]) (t := 25) ?hr ?_; (case hd => rfl); (case hg => rfl); (case hr => first | (go_simp; done) | (go_simp; rfl)); intro gb606 hg w27 hbox hb; have n0_ := Aside0.mk (sqM BK605.out hb); have n1_ := Aside0.mk (below_step sqH hb); have n2_ := Aside0.mk (hbox); have n3_ := Aside0.mk ((by rw [hg]; exact (below_size sqH) : w.heap.size ≤ gb606)); have n4_ := Aside0.mk ((by rw [hg]; exact (below_size sqH) : w.heap.size ≤ gb606)); have n5_ := Aside0.mk ((by rw [hg]; exact Nat.ne_of_lt (blk_lt (g := gb605) (o := .cells #[.int .i64 a0_0, .int .i64 a0_1, .int .i64 a0_2, .int .i64 a0_3, .slice A0_4 l0_4.length c0_4, .string a0_5, .string a0_6, .float .f64 a0_7] 25 (0, 0)) (sqK BK605.out)) : gb605 ≠ gb606)); have n6_ := Aside0.mk ((by rw [hg]; exact Nat.ne_of_gt (blk_lt (g := gb605) (o := .cells #[.int .i64 a0_0, .int .i64 a0_1, .int .i64 a0_2, .int .i64 a0_3, .slice A0_4 l0_4.length c0_4, .string a0_5, .string a0_6, .float .f64 a0_7] 25 (0, 0)) (sqK BK605.out)) : gb606 ≠ gb605)); clear BK605; clear HB; have BK605 := n0_; have HB := n1_; have BK606 := n2_; have GW606 := n3_; have GE606 := n4_; have NB605_606 := n5_; have NB606_605 := n6_; clear n0_ n1_ n2_ n3_ n4_ n5_ n6_; clear hb hbox hg; have hnb28 := NB605_606.out; have hnc28 := NB606_605.out; obtain ⟨z0, z1, z2, z3, z4, z5, z6, z7, y0, y1, y2, y3, y4, y5, y6, y7⟩ := box8 BK605.out) | (go_at_call 33; (with_reducible refine (endonymref6_Family.calls a0_0 t607 _ A3.out).mono ?_); rintro e w' ⟨rfl, ⟨nd, rfl⟩⟩; (try first | exact ⟨rfl, _, World.drewN_drewN _ _ _⟩ | exact ⟨rfl, _, Eq.trans (World.drewN_drewN _ _ _) (congrArg (World.drewN _) (Nat.add_assoc _ _ _))⟩); obtain ⟨z0, z1, z2, z3, z4, z5, z6, z7, y0, y1, y2, y3, y4, y5, y6, y7⟩ := box8 BK606.out) | (go_at_call 33; (with_reducible refine (endonymref6_Family.calls a1_0 t608 _ A4.out).mono ?_); rintro e w' ⟨rfl, ⟨nd, rfl⟩⟩; (try first | exact ⟨rfl, _, World.drewN_drewN _ _ _⟩ | exact ⟨rfl, _, Eq.trans (World.drewN_drewN _ _ _) (congrArg (World.drewN _) (Nat.add_assoc _ _ _))⟩)))
    repeat (go_quiet (first | (go_at_call 33; (with_reducible refine (endonymref6_Family.calls a0_0 t607 _ A3.out).mono ?_); rintro e w' ⟨rfl, ⟨nd, rfl⟩⟩; (try first | exact ⟨rfl, _, World.drewN_drewN _ _ _⟩ | exact ⟨rfl, _, Eq.trans (World.drewN_drewN _ _ _) (congrArg (World.drewN _) (Nat.add_assoc _ _ _))⟩); obtain ⟨z0, z1, z2, z3, z4, z5, z6, z7, y0, y1, y2, y3, y4, y5, y6, y7⟩ := box8 BK606.out) | (go_at_call 33; (with_reducible refine (endonymref6_Family.calls a1_0 t608 _ A4.out).mono ?_); rintro e w' ⟨rfl, ⟨nd, rfl⟩⟩; (try first | exact ⟨rfl, _, World.drewN_drewN _ _ _⟩ | exact ⟨rfl, _, Eq.trans (World.drewN_drewN _ _ _) (congrArg (World.drewN _) (Nat.add_assoc _ _ _))⟩))); try go_wp2_with (first | (go_at_call 33; (with_reducible refine (endonymref6_Family.calls a0_0 t607 _ A3.out).mono ?_); rintro e w' ⟨rfl, ⟨nd, rfl⟩⟩; (try first | exact ⟨rfl, _, World.drewN_drewN _ _ _⟩ | exact ⟨rfl, _, Eq.trans (World.drewN_drewN _ _ _) (congrArg (World.drewN _) (Nat.add_assoc _ _ _))⟩); obtain ⟨z0, z1, z2, z3, z4, z5, z6, z7, y0, y1, y2, y3, y4, y5, y6, y7⟩ := box8 BK606.out) | (go_at_call 33; (with_reducible refine (endonymref6_Family.calls a1_0 t608 _ A4.out).mono ?_); rintro e w' ⟨rfl, ⟨nd, rfl⟩⟩; (try first | exact ⟨rfl, _, World.drewN_drewN _ _ _⟩ | exact ⟨rfl, _, Eq.trans (World.drewN_drewN _ _ _) (congrArg (World.drewN _) (Nat.add_assoc _ _ _))⟩))))
    go_ret
    exact ⟨sqE', sqH⟩
   rw [if_neg c25] at H
   have c25b0 := beq_eq_false_iff_ne.mpr c25
   have c25b1 := bne_iff_ne.mpr c25
   obtain rfl := Option.some.inj H
   go_enter Tryz.func59, Tryz.ntmps59
   go_wp2_with (first | ((with_reducible refine gate_dst (N := 2) rfl ?_); refine box_event ?hg (N := 2) ?hd (cs := #[.int .i64 a0_0, .int .i64 a0_1, .int .i64 a0_2, .int .i64 a0_3, .slice A0_4 l0_4.length c0_4, .string a0_5, .string a0_6, .float .f64 a0_7]) (t := 25) ?hr ?_; (case hd => rfl); (case hg => rfl); (case hr => first | (go_simp; done) | (go_simp; rfl)); intro gb605 hg w31 hbox hb; have n0_ := Aside0.mk (below_step sqB hb); have n1_ := Aside0.mk (hbox); have n2_ := Aside0.mk ((by rw [hg]; exact (below_size sqB) : w.heap.size ≤ gb605)); have n3_ := Aside0.mk ((by rw [hg]; exact (below_size sqB) : w.heap.size ≤ gb605)); clear HB; have HB := n0_; have BK605 := n1_; have GW605 := n2_; have GE605 := n3_; clear n0_ n1_ n2_ n3_; clear hb hbox hg) | ((with_reducible refine gate_dst (N := 3) rfl ?_); refine box_event ?hg (N := 3) ?hd (cs := #[.int .i64 a1_0, .int .i64 a1_1, .int .i64 a1_2, .int .i64 a1_3, .slice A1_4 l1_4.length c1_4, .string a1_5, .string a1_6, .float .f64 a1_7]) (t := 25) ?hr ?_; (case hd => rfl); (case hg => rfl); (case hr => first | (go_simp; done) | (go_simp; rfl)); intro gb606 hg w32 hbox hb; have n0_ := Aside0.mk (sqM BK605.out hb); have n1_ := Aside0.mk (below_step sqH hb); have n2_ := Aside0.mk (hbox); have n3_ := Aside0.mk ((by rw [hg]; exact (below_size sqH) : w.heap.size ≤ gb606)); have n4_ := Aside0.mk ((by rw [hg]; exact (below_size sqH) : w.heap.size ≤ gb606)); have n5_ := Aside0.mk ((by rw [hg]; exact Nat.ne_of_lt (blk_lt (g := gb605) (o := .cells #[.int .i64 a0_0, .int .i64 a0_1, .int .i64 a0_2, .int .i64 a0_3, .slice A0_4 l0_4.length c0_4, .string a0_5, .string a0_6, .float .f64 a0_7] 25 (0, 0)) (sqK BK605.out)) : gb605 ≠ gb606)); have n6_ := Aside0.mk ((by rw [hg]; exact Nat.ne_of_gt (blk_lt (g := gb605) (o := .cells #[.int .i64 a0_0, .int .i64 a0_1, .int .i64 a0_2, .int .i64 a0_3, .slice A0_4 l0_4.length c0_4, .string a0_5, .string a0_6, .float .f64 a0_7] 25 (0, 0)) (sqK BK605.out)) : gb606 ≠ gb605)); clear BK605; clear HB; have BK605 := n0_; have HB := n1_; have BK606 := n2_; have GW606 := n3_; have GE606 := n4_; have NB605_606 := n5_; have NB606_605 := n6_; clear n0_ n1_ n2_ n3_ n4_ n5_ n6_; clear hb hbox hg; have hnb33 := NB605_606.out; have hnc33 := NB606_605.out; obtain ⟨z0, z1, z2, z3, z4, z5, z6, z7, y0, y1, y2, y3, y4, y5, y6, y7⟩ := box8 BK605.out) | (go_at_call 33; (with_reducible refine (endonymref6_Family.calls a0_0 t607 _ A3.out).mono ?_); rintro e w' ⟨rfl, ⟨nd, rfl⟩⟩; (try first | exact ⟨rfl, _, World.drewN_drewN _ _ _⟩ | exact ⟨rfl, _, Eq.trans (World.drewN_drewN _ _ _) (congrArg (World.drewN _) (Nat.add_assoc _ _ _))⟩); obtain ⟨z0, z1, z2, z3, z4, z5, z6, z7, y0, y1, y2, y3, y4, y5, y6, y7⟩ := box8 BK606.out) | (go_at_call 33; (with_reducible refine (endonymref6_Family.calls a1_0 t608 _ A4.out).mono ?_); rintro e w' ⟨rfl, ⟨nd, rfl⟩⟩; (try first | exact ⟨rfl, _, World.drewN_drewN _ _ _⟩ | exact ⟨rfl, _, Eq.trans (World.drewN_drewN _ _ _) (congrArg (World.drewN _) (Nat.add_assoc _ _ _))⟩)))
   repeat (go_quiet (first | (go_at_call 33; (with_reducible refine (endonymref6_Family.calls a0_0 t607 _ A3.out).mono ?_); rintro e w' ⟨rfl, ⟨nd, rfl⟩⟩; (try first | exact ⟨rfl, _, World.drewN_drewN _ _ _⟩ | exact ⟨rfl, _, Eq.trans (World.drewN_drewN _ _ _) (congrArg (World.drewN _) (Nat.add_assoc _ _ _))⟩); obtain ⟨z0, z1, z2, z3, z4, z5, z6, z7, y0, y1, y2, y3, y4, y5, y6, y7⟩ := box8 BK606.out) | (go_at_call 33; (with_reducible refine (endonymref6_Family.calls a1_0 t608 _ A4.out).mono ?_); rintro e w' ⟨rfl, ⟨nd, rfl⟩⟩; (try first | exact ⟨rfl, _, World.drewN_drewN _ _ _⟩ | exact ⟨rfl, _, Eq.trans (World.drewN_drewN _ _ _) (congrArg (World.drewN _) (Nat.add_assoc _ _ _))⟩))); try go_wp2_with (first | (go_at_call 33; (with_reducible refine (endonymref6_Family.calls a0_0 t607 _ A3.out).mono ?_); rintro e w' ⟨rfl, ⟨nd, rfl⟩⟩; (try first | exact ⟨rfl, _, World.drewN_drewN _ _ _⟩ | exact ⟨rfl, _, Eq.trans (World.drewN_drewN _ _ _) (congrArg (World.drewN _) (Nat.add_assoc _ _ _))⟩); obtain ⟨z0, z1, z2, z3, z4, z5, z6, z7, y0, y1, y2, y3, y4, y5, y6, y7⟩ := box8 BK606.out) | (go_at_call 33; (with_reducible refine (endonymref6_Family.calls a1_0 t608 _ A4.out).mono ?_); rintro e w' ⟨rfl, ⟨nd, rfl⟩⟩; (try first | exact ⟨rfl, _, World.drewN_drewN _ _ _⟩ | exact ⟨rfl, _, Eq.trans (World.drewN_drewN _ _ _) (congrArg (World.drewN _) (Nat.add_assoc _ _ _))⟩))))
   go_ret
   exact ⟨sqE', sqH⟩
  rw [if_pos c7] at H
  have c7b0 := beq_iff_eq.mpr c7
  have c7b1 := bne_eq_false_iff_eq.mpr c7
  clear c7
  by_cases c8 : a0_6.toList = a1_6.toList
  ·rw [if_pos c8] at H
   have c8b0 := beq_iff_eq.mpr c8
   have c8b1 := bne_eq_false_iff_eq.mpr c8
   clear c8
   obtain rfl := Option.some.inj H
   go_enter Tryz.func59, Tryz.ntmps59
   go_wp2_with (first | ((with_reducible refine gate_dst (N := 2) rfl ?_); refine box_event ?hg (N := 2) ?hd (cs := #[.int .i64 a0_0, .int .i64 a0_1, .int .i64 a0_2, .int .i64 a0_3, .slice A0_4 l0_4.length c0_4, .string a0_5, .string a0_6, .float .f64 a0_7]) (t := 25) ?hr ?_; (case hd => rfl); (case hg => rfl); (case hr => first | (go_simp; done) | (go_simp; rfl)); intro gb605 hg w9 hbox hb; have n0_ := Aside0.mk (below_step sqB hb); have n1_ := Aside0.mk (hbox); have n2_ := Aside0.mk ((by rw [hg]; exact (below_size sqB) : w.heap.size ≤ gb605)); have n3_ := Aside0.mk ((by rw [hg]; exact (below_size sqB) : w.heap.size ≤ gb605)); clear HB; have HB := n0_; have BK605 := n1_; have GW605 := n2_; have GE605 := n3_; clear n0_ n1_ n2_ n3_; clear hb hbox hg) | ((with_reducible refine gate_dst (N := 3) rfl ?_); refine box_event ?hg (N := 3) ?hd (cs := #[.int .i64 a1_0, .int .i64 a1_1, .int .i64 a1_2, .int .i64 a1_3, .slice A1_4 l1_4.length c1_4, .string a1_5, .string a1_6, .float .f64 a1_7]) (t := 25) ?hr ?_; (case hd => rfl); (case hg => rfl); (case hr => first | (go_simp; done) | (go_simp; rfl)); intro gb606 hg w10 hbox hb; have n0_ := Aside0.mk (sqM BK605.out hb); have n1_ := Aside0.mk (below_step sqH hb); have n2_ := Aside0.mk (hbox); have n3_ := Aside0.mk ((by rw [hg]; exact (below_size sqH) : w.heap.size ≤ gb606)); have n4_ := Aside0.mk ((by rw [hg]; exact (below_size sqH) : w.heap.size ≤ gb606)); have n5_ := Aside0.mk ((by rw [hg]; exact Nat.ne_of_lt (blk_lt (g := gb605) (o := .cells #[.int .i64 a0_0, .int .i64 a0_1, .int .i64 a0_2, .int .i64 a0_3, .slice A0_4 l0_4.length c0_4, .string a0_5, .string a0_6, .float .f64 a0_7] 25 (0, 0)) (sqK BK605.out)) : gb605 ≠ gb606)); have n6_ := Aside0.mk ((by rw [hg]; exact Nat.ne_of_gt (blk_lt (g := gb605) (o := .cells #[.int .i64 a0_0, .int .i64 a0_1, .int .i64 a0_2, .int .i64 a0_3, .slice A0_4 l0_4.length c0_4, .string a0_5, .string a0_6, .float .f64 a0_7] 25 (0, 0)) (sqK BK605.out)) : gb606 ≠ gb605)); clear BK605; clear HB; have BK605 := n0_; have HB := n1_; have BK606 := n2_; have GW606 := n3_; have GE606 := n4_; have NB605_606 := n5_; have NB606_605 := n6_; clear n0_ n1_ n2_ n3_ n4_ n5_ n6_; clear hb hbox hg; have hnb11 := NB605_606.out; have hnc11 := NB606_605.out; obtain ⟨z0, z1, z2, z3, z4, z5, z6, z7, y0, y1, y2, y3, y4, y5, y6, y7⟩ := box8 BK605.out) | (go_at_call 33; (with_reducible refine (endonymref6_Family.calls a0_0 t607 _ A3.out).mono ?_); rintro e w' ⟨rfl, ⟨nd, rfl⟩⟩; (try first | exact ⟨rfl, _, World.drewN_drewN _ _ _⟩ | exact ⟨rfl, _, Eq.trans (World.drewN_drewN _ _ _) (congrArg (World.drewN _) (Nat.add_assoc _ _ _))⟩); obtain ⟨z0, z1, z2, z3, z4, z5, z6, z7, y0, y1, y2, y3, y4, y5, y6, y7⟩ := box8 BK606.out) | (go_at_call 33; (with_reducible refine (endonymref6_Family.calls a1_0 t608 _ A4.out).mono ?_); rintro e w' ⟨rfl, ⟨nd, rfl⟩⟩; (try first | exact ⟨rfl, _, World.drewN_drewN _ _ _⟩ | exact ⟨rfl, _, Eq.trans (World.drewN_drewN _ _ _) (congrArg (World.drewN _) (Nat.add_assoc _ _ _))⟩)))
   repeat (go_quiet (first | (go_at_call 33; (with_reducible refine (endonymref6_Family.calls a0_0 t607 _ A3.out).mono ?_); rintro e w' ⟨rfl, ⟨nd, rfl⟩⟩; (try first | exact ⟨rfl, _, World.drewN_drewN _ _ _⟩ | exact ⟨rfl, _, Eq.trans (World.drewN_drewN _ _ _) (congrArg (World.drewN _) (Nat.add_assoc _ _ _))⟩); obtain ⟨z0, z1, z2, z3, z4, z5, z6, z7, y0, y1, y2, y3, y4, y5, y6, y7⟩ := box8 BK606.out) | (go_at_call 33; (with_reducible refine (endonymref6_Family.calls a1_0 t608 _ A4.out).mono ?_); rintro e w' ⟨rfl, ⟨nd, rfl⟩⟩; (try first | exact ⟨rfl, _, World.drewN_drewN _ _ _⟩ | exact ⟨rfl, _, Eq.trans (World.drewN_drewN _ _ _) (congrArg (World.drewN _) (Nat.add_assoc _ _ _))⟩))); try go_wp2_with (first | (go_at_call 33; (with_reducible refine (endonymref6_Family.calls a0_0 t607 _ A3.out).mono ?_); rintro e w' ⟨rfl, ⟨nd, rfl⟩⟩; (try first | exact ⟨rfl, _, World.drewN_drewN _ _ _⟩ | exact ⟨rfl, _, Eq.trans (World.drewN_drewN _ _ _) (congrArg (World.drewN _) (Nat.add_assoc _ _ _))⟩); obtain ⟨z0, z1, z2, z3, z4, z5, z6, z7, y0, y1, y2, y3, y4, y5, y6, y7⟩ := box8 BK606.out) | (go_at_call 33; (with_reducible refine (endonymref6_Family.calls a1_0 t608 _ A4.out).mono ?_); rintro e w' ⟨rfl, ⟨nd, rfl⟩⟩; (try first | exact ⟨rfl, _, World.drewN_drewN _ _ _⟩ | exact ⟨rfl, _, Eq.trans (World.drewN_drewN _ _ _) (congrArg (World.drewN _) (Nat.add_assoc _ _ _))⟩))))
   go_ret
   exact ⟨sqE', sqH⟩
  rw [if_neg c8] at H
  have c8b0 := beq_eq_false_iff_ne.mpr c8
  have c8b1 := bne_iff_ne.mpr c8
  by_cases c14 : a0_5.toList = a1_6.toList
  ·rw [if_pos c14] at H
   have c14b0 := beq_iff_eq.mpr c14
   have c14b1 := bne_eq_false_iff_eq.mpr c14
   clear c14
   obtain rfl := Option.some.inj H
   go_enter Tryz.func59, Tryz.ntmps59
   go_wp2_with (first | ((with_reducible refine gate_dst (N := 2) rfl ?_); refine box_event ?hg (N := 2) ?hd (cs := #[.int .i64 a0_0, .int .i64 a0_1, .int .i64 a0_2, .int .i64 a0_3, .slice A0_4 l0_4.length c0_4, .string a0_5, .string a0_6, .float .f64 a0_7]) (t := 25) ?hr ?_; (case hd => rfl); (case hg => rfl); (case hr => first | (go_simp; done) | (go_simp; rfl)); intro gb605 hg w15 hbox hb; have n0_ := Aside0.mk (below_step sqB hb); have n1_ := Aside0.mk (hbox); have n2_ := Aside0.mk ((by rw [hg]; exact (below_size sqB) : w.heap.size ≤ gb605)); have n3_ := Aside0.mk ((by rw [hg]; exact (below_size sqB) : w.heap.size ≤ gb605)); clear HB; have HB := n0_; have BK605 := n1_; have GW605 := n2_; have GE605 := n3_; clear n0_ n1_ n2_ n3_; clear hb hbox hg) | ((with_reducible refine gate_dst (N := 3) rfl ?_); refine box_event ?hg (N := 3) ?hd (cs := #[.int .i64 a1_0, .int .i64 a1_1, .int .i64 a1_2, .int .i64 a1_3, .slice A1_4 l1_4.length c1_4, .string a1_5, .string a1_6, .float .f64 a1_7]) (t := 25) ?hr ?_; (case hd => rfl); (case hg => rfl); (case hr => first | (go_simp; done) | (go_simp; rfl)); intro gb606 hg w16 hbox hb; have n0_ := Aside0.mk (sqM BK605.out hb); have n1_ := Aside0.mk (below_step sqH hb); have n2_ := Aside0.mk (hbox); have n3_ := Aside0.mk ((by rw [hg]; exact (below_size sqH) : w.heap.size ≤ gb606)); have n4_ := Aside0.mk ((by rw [hg]; exact (below_size sqH) : w.heap.size ≤ gb606)); have n5_ := Aside0.mk ((by rw [hg]; exact Nat.ne_of_lt (blk_lt (g := gb605) (o := .cells #[.int .i64 a0_0, .int .i64 a0_1, .int .i64 a0_2, .int .i64 a0_3, .slice A0_4 l0_4.length c0_4, .string a0_5, .string a0_6, .float .f64 a0_7] 25 (0, 0)) (sqK BK605.out)) : gb605 ≠ gb606)); have n6_ := Aside0.mk ((by rw [hg]; exact Nat.ne_of_gt (blk_lt (g := gb605) (o := .cells #[.int .i64 a0_0, .int .i64 a0_1, .int .i64 a0_2, .int .i64 a0_3, .slice A0_4 l0_4.length c0_4, .string a0_5, .string a0_6, .float .f64 a0_7] 25 (0, 0)) (sqK BK605.out)) : gb606 ≠ gb605)); clear BK605; clear HB; have BK605 := n0_; have HB := n1_; have BK606 := n2_; have GW606 := n3_; have GE606 := n4_; have NB605_606 := n5_; have NB606_605 := n6_; clear n0_ n1_ n2_ n3_ n4_ n5_ n6_; clear hb hbox hg; have hnb17 := NB605_606.out; have hnc17 := NB606_605.out; obtain ⟨z0, z1, z2, z3, z4, z5, z6, z7, y0, y1, y2, y3, y4, y5, y6, y7⟩ := box8 BK605.out) | (go_at_call 33; (with_reducible refine (endonymref6_Family.calls a0_0 t607 _ A3.out).mono ?_); rintro e w' ⟨rfl, ⟨nd, rfl⟩⟩; (try first | exact ⟨rfl, _, World.drewN_drewN _ _ _⟩ | exact ⟨rfl, _, Eq.trans (World.drewN_drewN _ _ _) (congrArg (World.drewN _) (Nat.add_assoc _ _ _))⟩); obtain ⟨z0, z1, z2, z3, z4, z5, z6, z7, y0, y1, y2, y3, y4, y5, y6, y7⟩ := box8 BK606.out) | (go_at_call 33; (with_reducible refine (endonymref6_Family.calls a1_0 t608 _ A4.out).mono ?_); rintro e w' ⟨rfl, ⟨nd, rfl⟩⟩; (try first | exact ⟨rfl, _, World.drewN_drewN _ _ _⟩ | exact ⟨rfl, _, Eq.trans (World.drewN_drewN _ _ _) (congrArg (World.drewN _) (Nat.add_assoc _ _ _))⟩)))
   repeat (go_quiet (first | (go_at_call 33; (with_reducible refine (endonymref6_Family.calls a0_0 t607 _ A3.out).mono ?_); rintro e w' ⟨rfl, ⟨nd, rfl⟩⟩; (try first | exact ⟨rfl, _, World.drewN_drewN _ _ _⟩ | exact ⟨rfl, _, Eq.trans (World.drewN_drewN _ _ _) (congrArg (World.drewN _) (Nat.add_assoc _ _ _))⟩); obtain ⟨z0, z1, z2, z3, z4, z5, z6, z7, y0, y1, y2, y3, y4, y5, y6, y7⟩ := box8 BK606.out) | (go_at_call 33; (with_reducible refine (endonymref6_Family.calls a1_0 t608 _ A4.out).mono ?_); rintro e w' ⟨rfl, ⟨nd, rfl⟩⟩; (try first | exact ⟨rfl, _, World.drewN_drewN _ _ _⟩ | exact ⟨rfl, _, Eq.trans (World.drewN_drewN _ _ _) (congrArg (World.drewN _) (Nat.add_assoc _ _ _))⟩))); try go_wp2_with (first | (go_at_call 33; (with_reducible refine (endonymref6_Family.calls a0_0 t607 _ A3.out).mono ?_); rintro e w' ⟨rfl, ⟨nd, rfl⟩⟩; (try first | exact ⟨rfl, _, World.drewN_drewN _ _ _⟩ | exact ⟨rfl, _, Eq.trans (World.drewN_drewN _ _ _) (congrArg (World.drewN _) (Nat.add_assoc _ _ _))⟩); obtain ⟨z0, z1, z2, z3, z4, z5, z6, z7, y0, y1, y2, y3, y4, y5, y6, y7⟩ := box8 BK606.out) | (go_at_call 33; (with_reducible refine (endonymref6_Family.calls a1_0 t608 _ A4.out).mono ?_); rintro e w' ⟨rfl, ⟨nd, rfl⟩⟩; (try first | exact ⟨rfl, _, World.drewN_drewN _ _ _⟩ | exact ⟨rfl, _, Eq.trans (World.drewN_drewN _ _ _) (congrArg (World.drewN _) (Nat.add_assoc _ _ _))⟩))))
   go_ret
   exact ⟨sqE', sqH⟩
  rw [if_neg c14] at H
  have c14b0 := beq_eq_false_iff_ne.mpr c14
  have c14b1 := bne_iff_ne.mpr c14
  obtain rfl := Option.some.inj H
  go_enter Tryz.func59, Tryz.ntmps59
  go_wp2_with (first | ((with_reducible refine gate_dst (N := 2) rfl ?_); refine box_event ?hg (N := 2) ?hd (cs := #[.int .i64 a0_0, .int .i64 a0_1, .int .i64 a0_2, .int .i64 a0_3, .slice A0_4 l0_4.length c0_4, .string a0_5, .string a0_6, .float .f64 a0_7]) (t := 25) ?hr ?_; (case hd => rfl); (case hg => rfl); (case hr => first | (go_simp; done) | (go_simp; rfl)); intro gb605 hg w20 hbox hb; have n0_ := Aside0.mk (below_step sqB hb); have n1_ := Aside0.mk (hbox); have n2_ := Aside0.mk ((by rw [hg]; exact (below_size sqB) : w.heap.size ≤ gb605)); have n3_ := Aside0.mk ((by rw [hg]; exact (below_size sqB) : w.heap.size ≤ gb605)); clear HB; have HB := n0_; have BK605 := n1_; have GW605 := n2_; have GE605 := n3_; clear n0_ n1_ n2_ n3_; clear hb hbox hg) | ((with_reducible refine gate_dst (N := 3) rfl ?_); refine box_event ?hg (N := 3) ?hd (cs := #[.int .i64 a1_0, .int .i64 a1_1, .int .i64 a1_2, .int .i64 a1_3, .slice A1_4 l1_4.length c1_4, .string a1_5, .string a1_6, .float .f64 a1_7]) (t := 25) ?hr ?_; (case hd => rfl); (case hg => rfl); (case hr => first | (go_simp; done) | (go_simp; rfl)); intro gb606 hg w21 hbox hb; have n0_ := Aside0.mk (sqM BK605.out hb); have n1_ := Aside0.mk (below_step sqH hb); have n2_ := Aside0.mk (hbox); have n3_ := Aside0.mk ((by rw [hg]; exact (below_size sqH) : w.heap.size ≤ gb606)); have n4_ := Aside0.mk ((by rw [hg]; exact (below_size sqH) : w.heap.size ≤ gb606)); have n5_ := Aside0.mk ((by rw [hg]; exact Nat.ne_of_lt (blk_lt (g := gb605) (o := .cells #[.int .i64 a0_0, .int .i64 a0_1, .int .i64 a0_2, .int .i64 a0_3, .slice A0_4 l0_4.length c0_4, .string a0_5, .string a0_6, .float .f64 a0_7] 25 (0, 0)) (sqK BK605.out)) : gb605 ≠ gb606)); have n6_ := Aside0.mk ((by rw [hg]; exact Nat.ne_of_gt (blk_lt (g := gb605) (o := .cells #[.int .i64 a0_0, .int .i64 a0_1, .int .i64 a0_2, .int .i64 a0_3, .slice A0_4 l0_4.length c0_4, .string a0_5, .string a0_6, .float .f64 a0_7] 25 (0, 0)) (sqK BK605.out)) : gb606 ≠ gb605)); clear BK605; clear HB; have BK605 := n0_; have HB := n1_; have BK606 := n2_; have GW606 := n3_; have GE606 := n4_; have NB605_606 := n5_; have NB606_605 := n6_; clear n0_ n1_ n2_ n3_ n4_ n5_ n6_; clear hb hbox hg; have hnb22 := NB605_606.out; have hnc22 := NB606_605.out; obtain ⟨z0, z1, z2, z3, z4, z5, z6, z7, y0, y1, y2, y3, y4, y5, y6, y7⟩ := box8 BK605.out) | (go_at_call 33; (with_reducible refine (endonymref6_Family.calls a0_0 t607 _ A3.out).mono ?_); rintro e w' ⟨rfl, ⟨nd, rfl⟩⟩; (try first | exact ⟨rfl, _, World.drewN_drewN _ _ _⟩ | exact ⟨rfl, _, Eq.trans (World.drewN_drewN _ _ _) (congrArg (World.drewN _) (Nat.add_assoc _ _ _))⟩); obtain ⟨z0, z1, z2, z3, z4, z5, z6, z7, y0, y1, y2, y3, y4, y5, y6, y7⟩ := box8 BK606.out) | (go_at_call 33; (with_reducible refine (endonymref6_Family.calls a1_0 t608 _ A4.out).mono ?_); rintro e w' ⟨rfl, ⟨nd, rfl⟩⟩; (try first | exact ⟨rfl, _, World.drewN_drewN _ _ _⟩ | exact ⟨rfl, _, Eq.trans (World.drewN_drewN _ _ _) (congrArg (World.drewN _) (Nat.add_assoc _ _ _))⟩)))
  repeat (go_quiet (first | (go_at_call 33; (with_reducible refine (endonymref6_Family.calls a0_0 t607 _ A3.out).mono ?_); rintro e w' ⟨rfl, ⟨nd, rfl⟩⟩; (try first | exact ⟨rfl, _, World.drewN_drewN _ _ _⟩ | exact ⟨rfl, _, Eq.trans (World.drewN_drewN _ _ _) (congrArg (World.drewN _) (Nat.add_assoc _ _ _))⟩); obtain ⟨z0, z1, z2, z3, z4, z5, z6, z7, y0, y1, y2, y3, y4, y5, y6, y7⟩ := box8 BK606.out) | (go_at_call 33; (with_reducible refine (endonymref6_Family.calls a1_0 t608 _ A4.out).mono ?_); rintro e w' ⟨rfl, ⟨nd, rfl⟩⟩; (try first | exact ⟨rfl, _, World.drewN_drewN _ _ _⟩ | exact ⟨rfl, _, Eq.trans (World.drewN_drewN _ _ _) (congrArg (World.drewN _) (Nat.add_assoc _ _ _))⟩))); try go_wp2_with (first | (go_at_call 33; (with_reducible refine (endonymref6_Family.calls a0_0 t607 _ A3.out).mono ?_); rintro e w' ⟨rfl, ⟨nd, rfl⟩⟩; (try first | exact ⟨rfl, _, World.drewN_drewN _ _ _⟩ | exact ⟨rfl, _, Eq.trans (World.drewN_drewN _ _ _) (congrArg (World.drewN _) (Nat.add_assoc _ _ _))⟩); obtain ⟨z0, z1, z2, z3, z4, z5, z6, z7, y0, y1, y2, y3, y4, y5, y6, y7⟩ := box8 BK606.out) | (go_at_call 33; (with_reducible refine (endonymref6_Family.calls a1_0 t608 _ A4.out).mono ?_); rintro e w' ⟨rfl, ⟨nd, rfl⟩⟩; (try first | exact ⟨rfl, _, World.drewN_drewN _ _ _⟩ | exact ⟨rfl, _, Eq.trans (World.drewN_drewN _ _ _) (congrArg (World.drewN _) (Nat.add_assoc _ _ _))⟩))))
  go_ret
  exact ⟨sqE', sqH⟩
 rw [if_neg c6] at H
 have c6b0 := beq_eq_false_iff_ne.mpr c6
 have c6b1 := bne_iff_ne.mpr c6
 obtain ⟨ji36, hji36⟩ : ∃ j_ : Int, (mx a0_1 a1_1) = j_ := ⟨_, rfl⟩
 replace H : ((endonymref6_step.f a0_0 a0_1 a0_2 a0_3 l0_4 a0_5 a0_6 a0_7).bind fun t609 => (if (ji36) > a0_1 then (if t609 = 0 then (none) else (endonymref6_clash.j0 k (mn a0_2 a1_2) t609 (wrap64 (a0_1 + (wrap64 ((wrap64 (Int.tdiv (wrap64 ((wrap64 ((wrap64 ((ji36) - a0_1)) + t609)) - 1)) t609)) * t609)))) a1_0 a1_1 a1_2 a1_3 l1_4 a1_5 a1_6 a1_7)) else (endonymref6_clash.j0 k (mn a0_2 a1_2) t609 a0_1 a1_0 a1_1 a1_2 a1_3 l1_4 a1_5 a1_6 a1_7))) = some r := by first | (rw [hji36] at H; exact H) | (simp only [hji36] at H ⊢; exact H)
 (try rw [hji36] at A3)
 (try rw [hji36] at A4)
 have hji36_ : (if a0_1 < a1_1 then a1_1 else a0_1) = ji36 := hji36
 obtain ⟨ji37, hji37⟩ : ∃ j_ : Int, (mn a0_2 a1_2) = j_ := ⟨_, rfl⟩
 replace H : ((endonymref6_step.f a0_0 a0_1 a0_2 a0_3 l0_4 a0_5 a0_6 a0_7).bind fun t609 => (if (ji36) > a0_1 then (if t609 = 0 then (none) else (endonymref6_clash.j0 k ji37 t609 (wrap64 (a0_1 + (wrap64 ((wrap64 (Int.tdiv (wrap64 ((wrap64 ((wrap64 ((ji36) - a0_1)) + t609)) - 1)) t609)) * t609)))) a1_0 a1_1 a1_2 a1_3 l1_4 a1_5 a1_6 a1_7)) else (endonymref6_clash.j0 k ji37 t609 a0_1 a1_0 a1_1 a1_2 a1_3 l1_4 a1_5 a1_6 a1_7))) = some r := by first | (rw [hji37] at H; exact H) | (simp only [hji37] at H ⊢; exact H)
 (try rw [hji37] at A3)
 (try rw [hji37] at A4)
 have hji37_ : (if a1_2 < a0_2 then a1_2 else a0_2) = ji37 := hji37
 obtain ⟨t609, A38, H⟩ := sqO H
 try dsimp only at H
 have HC39 := Aside0.mk H
 clear H
 go_enter Tryz.func59, Tryz.ntmps59
 go_upto_if 63 with (first | ((with_reducible refine gate_dst (N := 2) rfl ?_); refine box_event ?hg (N := 2) ?hd (cs := #[.int .i64 a0_0, .int .i64 a0_1, .int .i64 a0_2, .int .i64 a0_3, .slice A0_4 l0_4.length c0_4, .string a0_5, .string a0_6, .float .f64 a0_7]) (t := 25) ?hr ?_; (case hd => rfl); (case hg => rfl); (case hr => first | (go_simp; done) | (go_simp; rfl)); intro gb605 hg w40 hbox hb; have n0_ := Aside0.mk (below_step sqB hb); have n1_ := Aside0.mk (hbox); have n2_ := Aside0.mk ((by rw [hg]; exact (below_size sqB) : w.heap.size ≤ gb605)); have n3_ := Aside0.mk ((by rw [hg]; exact (below_size sqB) : w.heap.size ≤ gb605)); clear HB; have HB := n0_; have BK605 := n1_; have GW605 := n2_; have GE605 := n3_; clear n0_ n1_ n2_ n3_; clear hb hbox hg) | ((with_reducible refine gate_dst (N := 3) rfl ?_); refine box_event ?hg (N := 3) ?hd (cs := #[.int .i64 a1_0, .int .i64 a1_1, .int .i64 a1_2, .int .i64 a1_3, .slice A1_4 l1_4.length c1_4, .string a1_5, .string a1_6, .float .f64 a1_7]) (t := 25) ?hr ?_; (case hd => rfl); (case hg => rfl); (case hr => first | (go_simp; done) | (go_simp; rfl)); intro gb606 hg w41 hbox hb; have n0_ := Aside0.mk (sqM BK605.out hb); have n1_ := Aside0.mk (below_step sqH hb); have n2_ := Aside0.mk (hbox); have n3_ := Aside0.mk ((by rw [hg]; exact (below_size sqH) : w.heap.size ≤ gb606)); have n4_ := Aside0.mk ((by rw [hg]; exact (below_size sqH) : w.heap.size ≤ gb606)); have n5_ := Aside0.mk ((by rw [hg]; exact Nat.ne_of_lt (blk_lt (g := gb605) (o := .cells #[.int .i64 a0_0, .int .i64 a0_1, .int .i64 a0_2, .int .i64 a0_3, .slice A0_4 l0_4.length c0_4, .string a0_5, .string a0_6, .float .f64 a0_7] 25 (0, 0)) (sqK BK605.out)) : gb605 ≠ gb606)); have n6_ := Aside0.mk ((by rw [hg]; exact Nat.ne_of_gt (blk_lt (g := gb605) (o := .cells #[.int .i64 a0_0, .int .i64 a0_1, .int .i64 a0_2, .int .i64 a0_3, .slice A0_4 l0_4.length c0_4, .string a0_5, .string a0_6, .float .f64 a0_7] 25 (0, 0)) (sqK BK605.out)) : gb606 ≠ gb605)); clear BK605; clear HB; have BK605 := n0_; have HB := n1_; have BK606 := n2_; have GW606 := n3_; have GE606 := n4_; have NB605_606 := n5_; have NB606_605 := n6_; clear n0_ n1_ n2_ n3_ n4_ n5_ n6_; clear hb hbox hg; have hnb42 := NB605_606.out; have hnc42 := NB606_605.out; obtain ⟨z0, z1, z2, z3, z4, z5, z6, z7, y0, y1, y2, y3, y4, y5, y6, y7⟩ := box8 BK605.out) | (go_at_call 33; (with_reducible refine (endonymref6_Family.calls a0_0 t607 _ A3.out).mono ?_); rintro e w' ⟨rfl, ⟨nd, rfl⟩⟩; (try first | exact ⟨rfl, _, World.drewN_drewN _ _ _⟩ | exact ⟨rfl, _, Eq.trans (World.drewN_drewN _ _ _) (congrArg (World.drewN _) (Nat.add_assoc _ _ _))⟩); obtain ⟨z0, z1, z2, z3, z4, z5, z6, z7, y0, y1, y2, y3, y4, y5, y6, y7⟩ := box8 BK606.out) | (go_at_call 33; (with_reducible refine (endonymref6_Family.calls a1_0 t608 _ A4.out).mono ?_); rintro e w' ⟨rfl, ⟨nd, rfl⟩⟩; (try first | exact ⟨rfl, _, World.drewN_drewN _ _ _⟩ | exact ⟨rfl, _, Eq.trans (World.drewN_drewN _ _ _) (congrArg (World.drewN _) (Nat.add_assoc _ _ _))⟩)) | (go_at_call 92; (with_reducible refine (endonymref6_step.calls a0_0 a0_1 a0_2 a0_3 _ _ l0_4 a0_5 a0_6 a0_7 t609 _ ?side1 ?side2 A38.out).mono ?_); (case side1 => exact Kd.C_below HR0_4.out sqH); (case side2 => exact HC0_4.out); rintro e w45 ⟨rfl, hb⟩; replace BK605 := Aside0.mk (sqM BK605.out hb); replace BK606 := Aside0.mk (sqM BK606.out hb); replace HB := Aside0.mk (below_step sqH hb); (try clear hb); obtain ⟨z0, z1, z2, z3, z4, z5, z6, z7, y0, y1, y2, y3, y4, y5, y6, y7⟩ := box8 BK605.out))
 repeat (go_quiet (first | (go_at_call 33; (with_reducible refine (endonymref6_Family.calls a0_0 t607 _ A3.out).mono ?_); rintro e w' ⟨rfl, ⟨nd, rfl⟩⟩; (try first | exact ⟨rfl, _, World.drewN_drewN _ _ _⟩ | exact ⟨rfl, _, Eq.trans (World.drewN_drewN _ _ _) (congrArg (World.drewN _) (Nat.add_assoc _ _ _))⟩); obtain ⟨z0, z1, z2, z3, z4, z5, z6, z7, y0, y1, y2, y3, y4, y5, y6, y7⟩ := box8 BK606.out) | (go_at_call 33; (with_reducible refine (endonymref6_Family.calls a1_0 t608 _ A4.out).mono ?_); rintro e w' ⟨rfl, ⟨nd, rfl⟩⟩; (try first | exact ⟨rfl, _, World.drewN_drewN _ _ _⟩ | exact ⟨rfl, _, Eq.trans (World.drewN_drewN _ _ _) (congrArg (World.drewN _) (Nat.add_assoc _ _ _))⟩)) | (go_at_call 92; (with_reducible refine (endonymref6_step.calls a0_0 a0_1 a0_2 a0_3 _ _ l0_4 a0_5 a0_6 a0_7 t609 _ ?side1 ?side2 A38.out).mono ?_); (case side1 => exact Kd.C_below HR0_4.out sqH); (case side2 => exact HC0_4.out); rintro e w45 ⟨rfl, hb⟩; replace BK605 := Aside0.mk (sqM BK605.out hb); replace BK606 := Aside0.mk (sqM BK606.out hb); replace HB := Aside0.mk (below_step sqH hb); (try clear hb); obtain ⟨z0, z1, z2, z3, z4, z5, z6, z7, y0, y1, y2, y3, y4, y5, y6, y7⟩ := box8 BK605.out)); go_upto_if 63 with (first | (go_at_call 33; (with_reducible refine (endonymref6_Family.calls a0_0 t607 _ A3.out).mono ?_); rintro e w' ⟨rfl, ⟨nd, rfl⟩⟩; (try first | exact ⟨rfl, _, World.drewN_drewN _ _ _⟩ | exact ⟨rfl, _, Eq.trans (World.drewN_drewN _ _ _) (congrArg (World.drewN _) (Nat.add_assoc _ _ _))⟩); obtain ⟨z0, z1, z2, z3, z4, z5, z6, z7, y0, y1, y2, y3, y4, y5, y6, y7⟩ := box8 BK606.out) | (go_at_call 33; (with_reducible refine (endonymref6_Family.calls a1_0 t608 _ A4.out).mono ?_); rintro e w' ⟨rfl, ⟨nd, rfl⟩⟩; (try first | exact ⟨rfl, _, World.drewN_drewN _ _ _⟩ | exact ⟨rfl, _, Eq.trans (World.drewN_drewN _ _ _) (congrArg (World.drewN _) (Nat.add_assoc _ _ _))⟩)) | (go_at_call 92; (with_reducible refine (endonymref6_step.calls a0_0 a0_1 a0_2 a0_3 _ _ l0_4 a0_5 a0_6 a0_7 t609 _ ?side1 ?side2 A38.out).mono ?_); (case side1 => exact Kd.C_below HR0_4.out sqH); (case side2 => exact HC0_4.out); rintro e w45 ⟨rfl, hb⟩; replace BK605 := Aside0.mk (sqM BK605.out hb); replace BK606 := Aside0.mk (sqM BK606.out hb); replace HB := Aside0.mk (below_step sqH hb); (try clear hb); obtain ⟨z0, z1, z2, z3, z4, z5, z6, z7, y0, y1, y2, y3, y4, y5, y6, y7⟩ := box8 BK605.out)))
 (try simp only [Act.put, List.setIfInBounds_toArray, List.set_cons_zero, List.set_cons_succ])
 go_cut [8] (fun v8 wc => ∃ (kq : Nat) (x8_38 : Int), v8 = .int .i64 x8_38 ∧ Aside0 (endonymref6_clash.j0 kq ji37 t609 x8_38 a1_0 a1_1 a1_2 a1_3 l1_4 a1_5 a1_6 a1_7 = some r) ∧ Aside0 (kq ≤ k) ∧ Aside0 (wc.heap[gb605]? = some (.cells #[.int .i64 a0_0, .int .i64 a0_1, .int .i64 a0_2, .int .i64 a0_3, (.slice A0_4 l0_4.length c0_4), .string a0_5, .string a0_6, .float .f64 a0_7] 25 (0, 0))) ∧ Aside0 (wc.heap[gb606]? = some (.cells #[.int .i64 a1_0, .int .i64 a1_1, .int .i64 a1_2, .int .i64 a1_3, (.slice A1_4 l1_4.length c1_4), .string a1_5, .string a1_6, .float .f64 a1_7] 25 (0, 0))) ∧ Aside0 (Below w.heap.size w wc))
 case first =>
  have H := HC39.out
  clear HC39
  by_cases c47 : (ji36) > a0_1
  case neg =>
   rw [if_neg c47] at H
   have c47b0 := decide_eq_false c47
   clear c47
   (first | rw [c47b0] | (simp only [i64_w, i32_w]; rw [c47b0]) | skip)
   have H' := Aside0.mk H
   clear H
   go_wp2
   repeat (go_quiet (fail); try go_wp2)
   go_meet
   case rel => exact ⟨_, (a0_1), sqE, H', ⟨by first | omega | exact Nat.le_refl _⟩, ⟨by (with_reducible repeat (first | refine blk_drewN ?_ _ | refine blk_drew ?_ | refine blk_alloc ?_ _)); exact BK605.out⟩, ⟨by (with_reducible repeat (first | refine blk_drewN ?_ _ | refine blk_drew ?_ | refine blk_alloc ?_ _)); exact BK606.out⟩, ⟨sqH⟩⟩
  rw [if_pos c47] at H
  have c47b0 := decide_eq_true c47
  clear c47
  (first | rw [c47b0] | (simp only [i64_w, i32_w]; rw [c47b0]) | skip)
  by_cases c48 : t609 = 0
  ·rw [if_pos c48] at H
   exact absurd H (by simp)
  rw [if_neg c48] at H
  have c48b0 := beq_eq_false_iff_ne.mpr c48
  have c48b1 := bne_iff_ne.mpr c48
  have H' := Aside0.mk H
  clear H
  have hnb49 := NB605_606.out
  have hnc49 := NB606_605.out
  obtain ⟨z0, z1, z2, z3, z4, z5, z6, z7, y0, y1, y2, y3, y4, y5, y6, y7⟩ := box8 BK605.out
  go_wp2
  repeat (go_quiet (fail); try go_wp2)
  go_meet
  case rel => exact ⟨_, (wrap64 (a0_1 + (wrap64 ((wrap64 (Int.tdiv (wrap64 ((wrap64 ((wrap64 ((ji36) - a0_1)) + t609)) - 1)) t609)) * t609)))), (by first | rfl | (simp; done) | (simp only [← hji36] <;> (first | rfl | simp)) | (simp [*]; done)), H', ⟨by first | omega | exact Nat.le_refl _⟩, ⟨by (with_reducible repeat (first | refine blk_drewN ?_ _ | refine blk_drew ?_ | refine blk_alloc ?_ _)); exact BK605.out⟩, ⟨by (with_reducible repeat (first | refine blk_drewN ?_ _ | refine blk_drew ?_ | refine blk_alloc ?_ _)); exact BK606.out⟩, ⟨sqH⟩⟩
 case rest =>
  clear HC39
  try clear c5
  try clear c5b0
  try clear c5b1
  try clear c6
  try clear c6b0
  try clear c6b1
  obtain ⟨kq, x8_38, rfl, HA, HJ38, BK605, BK606, HB⟩ := hcut
  cases kq with
  | zero => exact absurd HA.out (by simp [endonymref6_clash.j0])
  | succ kj38 =>
   have H := HA.out
   clear HA
   simp only [endonymref6_clash.j0] at H
   have H' := Aside0.mk H
   clear H
   go_wp2
   repeat (go_quiet (fail); try go_wp2)
   go_loopg [8, 9] kj38 (fun kq v8 v9 w' => ∃ (x8_2 : Int) (x9_2 : Int), v8 = .int .i64 x8_2 ∧ v9 = .int .i64 x9_2 ∧ Aside0 (endonymref6_clash.l0 kq ji37 t609 x8_2 x9_2 a1_0 a1_1 a1_2 a1_3 l1_4 a1_5 a1_6 a1_7 = some r) ∧ Aside0 (kq ≤ kj38) ∧ Aside0 (w'.heap[gb605]? = some (.cells #[.int .i64 a0_0, .int .i64 a0_1, .int .i64 a0_2, .int .i64 a0_3, (.slice A0_4 l0_4.length c0_4), .string a0_5, .string a0_6, .float .f64 a0_7] 25 (0, 0))) ∧ Aside0 (w'.heap[gb606]? = some (.cells #[.int .i64 a1_0, .int .i64 a1_1, .int .i64 a1_2, .int .i64 a1_3, (.slice A1_4 l1_4.length c1_4), .string a1_5, .string a1_6, .float .f64 a1_7] 25 (0, 0))) ∧ Aside0 (Below w.heap.size w w'))
   case atStart => exact ⟨(x8_38), (0), sqE, sqE, H', ⟨Nat.le_refl _⟩, ⟨by (with_reducible repeat (first | refine blk_drewN ?_ _ | refine blk_drew ?_ | refine blk_alloc ?_ _)); exact BK605.out⟩, ⟨by (with_reducible repeat (first | refine blk_drewN ?_ _ | refine blk_drew ?_ | refine blk_alloc ?_ _)); exact BK606.out⟩, ⟨sqH⟩⟩
   case round =>
    clear H'
    try clear c5
    try clear c5b0
    try clear c5b1
    try clear c6
    try clear c6b0
    try clear c6b1
    obtain ⟨x8_2, x9_2, rfl, rfl, HA, HK2, BK605, BK606, HB⟩ := hrel
    cases gk with
    | zero => exact absurd HA.out (by simp [endonymref6_clash.l0])
    | succ k2 =>
     have H := HA.out
     clear HA
     simp only [endonymref6_clash.l0] at H
     have HC51 := Aside0.mk H
     clear H
     go_upto_region 11 with (fail)
     repeat (go_quiet (fail); go_upto_region 11 with (fail))
     go_cut [84] (fun v84 wc => ∃ (kq : Nat) (x84_50 : Bool), v84 = .bool x84_50 ∧ Aside0 (endonymref6_clash.j2 kq ji37 t609 x8_2 x9_2 x84_50 a1_0 a1_1 a1_2 a1_3 l1_4 a1_5 a1_6 a1_7 = some r) ∧ Aside0 (kq ≤ k2) ∧ Aside0 (wc.heap[gb605]? = some (.cells #[.int .i64 a0_0, .int .i64 a0_1, .int .i64 a0_2, .int .i64 a0_3, (.slice A0_4 l0_4.length c0_4), .string a0_5, .string a0_6, .float .f64 a0_7] 25 (0, 0))) ∧ Aside0 (wc.heap[gb606]? = some (.cells #[.int .i64 a1_0, .int .i64 a1_1, .int .i64 a1_2, .int .i64 a1_3, (.slice A1_4 l1_4.length c1_4), .string a1_5, .string a1_6, .float .f64 a1_7] 25 (0, 0))) ∧ Aside0 (Below w.heap.size w wc))
     case first =>
      have H := HC51.out
      clear HC51
      by_cases c52 : x9_2 < 64
      ·rw [if_pos c52] at H
       have c52b0 := decide_eq_true c52
       clear c52
       (first | rw [c52b0] | (simp only [i64_w, i32_w]; rw [c52b0]) | skip)
       have H' := Aside0.mk H
       clear H
       go_wp2
       repeat (go_quiet (fail); try go_wp2)
       go_meet
       case rel => exact ⟨_, (decide (x8_2 ≤ ji37)), (by first | rfl | (simp; done) | (simp only [← hji37] <;> (first | rfl | simp)) | (simp [*]; done)), H', ⟨by have := HJ38.out; have := HK2.out; first | omega | exact Nat.le_refl _⟩, ⟨by (with_reducible repeat (first | refine blk_drewN ?_ _ | refine blk_drew ?_ | refine blk_alloc ?_ _)); exact BK605.out⟩, ⟨by (with_reducible repeat (first | refine blk_drewN ?_ _ | refine blk_drew ?_ | refine blk_alloc ?_ _)); exact BK606.out⟩, ⟨sqH⟩⟩
      rw [if_neg c52] at H
      have c52b0 := decide_eq_false c52
      clear c52
      (first | rw [c52b0] | (simp only [i64_w, i32_w]; rw [c52b0]) | skip)
      have H' := Aside0.mk H
      clear H
      go_wp2
      repeat (go_quiet (fail); try go_wp2)
      go_meet
      case rel => exact ⟨_, (false), sqE, H', ⟨by have := HJ38.out; have := HK2.out; first | omega | exact Nat.le_refl _⟩, ⟨by (with_reducible repeat (first | refine blk_drewN ?_ _ | refine blk_drew ?_ | refine blk_alloc ?_ _)); exact BK605.out⟩, ⟨by (with_reducible repeat (first | refine blk_drewN ?_ _ | refine blk_drew ?_ | refine blk_alloc ?_ _)); exact BK606.out⟩, ⟨sqH⟩⟩
     case rest =>
      clear HC51
      try clear c5
      try clear c5b0
      try clear c5b1
      try clear c6
      try clear c6b0
      try clear c6b1
      obtain ⟨kq, x84_50, rfl, HA, HJ50, BK605, BK606, HB⟩ := hcut
      cases kq with
      | zero => exact absurd HA.out (by simp [endonymref6_clash.j2])
      | succ kj50 =>
       have H := HA.out
       clear HA
       simp only [endonymref6_clash.j2] at H
       by_cases c53 : x84_50 = true
       case neg =>
        replace c53 := Bool.eq_false_iff.mpr c53
        subst c53
        rw [if_neg (show ¬ (false = true) by decide)] at H
        obtain rfl := Option.some.inj H
        go_wp2
        repeat (go_quiet (fail); try go_wp2)
        go_ret
        exact ⟨by first | rfl | (simp [errW_none, errW_some] <;> rfl) | (simp only [← hji36, ← hji37]; first | rfl | (simp [errW_none, errW_some] <;> rfl)) | (simp [*, errW_none, errW_some] <;> rfl), sqH⟩
       subst c53
       rw [if_pos rfl] at H
       obtain ⟨t610, A54, H⟩ := sqO H
       try dsimp only at H
       by_cases c55 : t610 = true
       ·subst c55
        rw [if_pos rfl] at H
        obtain rfl := Option.some.inj H
        have hnb56 := NB606_605.out
        have hnc56 := NB605_606.out
        obtain ⟨z0, z1, z2, z3, z4, z5, z6, z7, y0, y1, y2, y3, y4, y5, y6, y7⟩ := box8 BK606.out
        go_wp2_with (first | (go_at_call 71; (with_reducible refine (endonymref6_Speaks.calls a1_0 a1_1 a1_2 a1_3 _ _ l1_4 a1_5 a1_6 a1_7 x8_2 true _ ?side1 ?side2 A54.out).mono ?_); (case side1 => exact sqC (Kd.C_below HR1_4.out HB.out)); (case side2 => exact HC1_4.out); rintro e w58 ⟨rfl, hb⟩; replace BK605 := Aside0.mk (sqM BK605.out hb); replace BK606 := Aside0.mk (sqM BK606.out hb); replace HB := Aside0.mk (below_step sqH hb); (try clear hb)))
        repeat (go_quiet (first | (go_at_call 71; (with_reducible refine (endonymref6_Speaks.calls a1_0 a1_1 a1_2 a1_3 _ _ l1_4 a1_5 a1_6 a1_7 x8_2 true _ ?side1 ?side2 A54.out).mono ?_); (case side1 => exact sqC (Kd.C_below HR1_4.out HB.out)); (case side2 => exact HC1_4.out); rintro e w58 ⟨rfl, hb⟩; replace BK605 := Aside0.mk (sqM BK605.out hb); replace BK606 := Aside0.mk (sqM BK606.out hb); replace HB := Aside0.mk (below_step sqH hb); (try clear hb))); try go_wp2_with (first | (go_at_call 71; (with_reducible refine (endonymref6_Speaks.calls a1_0 a1_1 a1_2 a1_3 _ _ l1_4 a1_5 a1_6 a1_7 x8_2 true _ ?side1 ?side2 A54.out).mono ?_); (case side1 => exact sqC (Kd.C_below HR1_4.out HB.out)); (case side2 => exact HC1_4.out); rintro e w58 ⟨rfl, hb⟩; replace BK605 := Aside0.mk (sqM BK605.out hb); replace BK606 := Aside0.mk (sqM BK606.out hb); replace HB := Aside0.mk (below_step sqH hb); (try clear hb))))
        go_ret
        exact ⟨by first | rfl | (simp [errW_none, errW_some] <;> rfl) | (simp only [← hji36, ← hji37]; first | rfl | (simp [errW_none, errW_some] <;> rfl)) | (simp [*, errW_none, errW_some] <;> rfl), sqH⟩
       replace c55 := Bool.eq_false_iff.mpr c55
       subst c55
       rw [if_neg (show ¬ (false = true) by decide)] at H
       have H' := Aside0.mk H
       clear H
       have hnb59 := NB606_605.out
       have hnc59 := NB605_606.out
       obtain ⟨z0, z1, z2, z3, z4, z5, z6, z7, y0, y1, y2, y3, y4, y5, y6, y7⟩ := box8 BK606.out
       go_wp2_with (first | (go_at_call 71; (with_reducible refine (endonymref6_Speaks.calls a1_0 a1_1 a1_2 a1_3 _ _ l1_4 a1_5 a1_6 a1_7 x8_2 false _ ?side1 ?side2 A54.out).mono ?_); (case side1 => exact sqC (Kd.C_below HR1_4.out HB.out)); (case side2 => exact HC1_4.out); rintro e w61 ⟨rfl, hb⟩; replace BK605 := Aside0.mk (sqM BK605.out hb); replace BK606 := Aside0.mk (sqM BK606.out hb); replace HB := Aside0.mk (below_step sqH hb); (try clear hb)))
       repeat (go_quiet (first | (go_at_call 71; (with_reducible refine (endonymref6_Speaks.calls a1_0 a1_1 a1_2 a1_3 _ _ l1_4 a1_5 a1_6 a1_7 x8_2 false _ ?side1 ?side2 A54.out).mono ?_); (case side1 => exact sqC (Kd.C_below HR1_4.out HB.out)); (case side2 => exact HC1_4.out); rintro e w61 ⟨rfl, hb⟩; replace BK605 := Aside0.mk (sqM BK605.out hb); replace BK606 := Aside0.mk (sqM BK606.out hb); replace HB := Aside0.mk (below_step sqH hb); (try clear hb))); try go_wp2_with (first | (go_at_call 71; (with_reducible refine (endonymref6_Speaks.calls a1_0 a1_1 a1_2 a1_3 _ _ l1_4 a1_5 a1_6 a1_7 x8_2 false _ ?side1 ?side2 A54.out).mono ?_); (case side1 => exact sqC (Kd.C_below HR1_4.out HB.out)); (case side2 => exact HC1_4.out); rintro e w61 ⟨rfl, hb⟩; replace BK605 := Aside0.mk (sqM BK605.out hb); replace BK606 := Aside0.mk (sqM BK606.out hb); replace HB := Aside0.mk (below_step sqH hb); (try clear hb))))
       go_roundg kj50
       case measure => have := HJ38.out; have := HK2.out; have := HJ50.out; omega
       case rel => exact ⟨(wrap64 (x8_2 + t609)), (wrap64 (x9_2 + 1)), sqE, sqE, H', ⟨by have := HJ38.out; have := HK2.out; have := HJ50.out; omega⟩, ⟨by (with_reducible repeat (first | refine blk_drewN ?_ _ | refine blk_drew ?_ | refine blk_alloc ?_ _)); exact BK605.out⟩, ⟨by (with_reducible repeat (first | refine blk_drewN ?_ _ | refine blk_drew ?_ | refine blk_alloc ?_ _)); exact BK606.out⟩, ⟨sqH⟩⟩
end Go.Proofs.YtnoppeocbfapdaaGreatDoor.T
