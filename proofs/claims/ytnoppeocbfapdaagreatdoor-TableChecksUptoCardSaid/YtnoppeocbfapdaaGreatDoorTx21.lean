import Derived.Test.YtnoppeocbfapdaaGreatDoorTx0
import Derived.Test.YtnoppeocbfapdaaGreatDoorTx18
import Derived.Test.YtnoppeocbfapdaaGreatDoorTx19
import Derived.Test.YtnoppeocbfapdaaGreatDoorTx20
namespace Go.Proofs.YtnoppeocbfapdaaGreatDoor.T
open Go.RowKit Go.Proofs.YtnoppeocbfapdaaGreatDoorW.PrintWords Go.Proofs.YtnoppeocbfapdaaGreatDoorW.PrintLast Go.Proofs.YtnoppeocbfapdaaGreatDoorW.PrintMore
set_option maxHeartbeats 8000000
set_option maxRecDepth 100000
attribute [local go_sem] max2_int min2_int max_two min_two max_three min_three max_four min_four
set_option linter.unusedVariables false
set_option linter.unusedSimpArgs false
mutual
def endonymref6_Right.j0 : Nat → Bool → Int → Int → Int → Int → List Int → ByteArray → ByteArray → Nat → Option (Int)
 | 0, _, _, _, _, _, _, _, _, _ => none
 | k + 1, x3, x575000, x575001, x575002, x575003, x575004, x575005, x575006, x575007 => if x575001 = x575002 then ((endonymref3_Valid.f (wrap32 (Go.bits .and .i64 x575001 2097151))).bind fun t580 => (endonymref6_Right.j1 k x3 t580 x575000 x575001 x575002 x575003 x575004 x575005 x575006 x575007)) else (endonymref6_Right.j1 k x3 false x575000 x575001 x575002 x575003 x575004 x575005 x575006 x575007)
def endonymref6_Right.j1 : Nat → Bool → Bool → Int → Int → Int → Int → List Int → ByteArray → ByteArray → Nat → Option (Int)
 | 0, _, _, _, _, _, _, _, _, _, _ => none
 | k + 1, x3, x4, x575000, x575001, x575002, x575003, x575004, x575005, x575006, x575007 => if x575000 = 1 then (endonymref6_Right.j2 k x3 x4 x575000 (x575000 == 1) x575000 x575001 x575002 x575003 x575004 x575005 x575006 x575007) else (if x575000 = 2 then (endonymref6_Right.j2 k x3 x4 x575000 (x575000 == 2) x575000 x575001 x575002 x575003 x575004 x575005 x575006 x575007) else (endonymref6_Right.j2 k x3 x4 x575000 (x575000 == 11) x575000 x575001 x575002 x575003 x575004 x575005 x575006 x575007))
def endonymref6_Right.j2 : Nat → Bool → Bool → Int → Bool → Int → Int → Int → Int → List Int → ByteArray → ByteArray → Nat → Option (Int)
 | 0, _, _, _, _, _, _, _, _, _, _, _, _ => none
 | k + 1, x3, x4, x76, x87, x575000, x575001, x575002, x575003, x575004, x575005, x575006, x575007 => if x87 = true then (if x3 = true then ((endonymref6_bare.f x575000 x575001 x575002 x575003 x575004 x575005 x575006 x575007 false false false false false).bind fun t581 => (if t581 = true then (some 0) else (some 61))) else (some 61)) else (if x76 = 3 then (if x3 = true then ((endonymref6_bare.f x575000 x575001 x575002 x575003 x575004 x575005 x575006 x575007 false true false false false).bind fun t582 => (if t582 = true then ((endonymref6_list.f k x575004 1 24).bind fun t583 => (if t583 = true then (some 0) else (some 61))) else (some 61))) else (some 61)) else (if x76 = 4 then (if x3 = true then ((endonymref6_bare.f x575000 x575001 x575002 x575003 x575004 x575005 x575006 x575007 true true false false false).bind fun t584 => (if t584 = true then (if x575003 ≥ 1 then (if x575003 ≤ 64 then ((endonymref6_list.f k x575004 1 1).bind fun t585 => (endonymref6_Right.j3 k t585 x575000 x575001 x575002 x575003 x575004 x575005 x575006 x575007)) else (endonymref6_Right.j3 k false x575000 x575001 x575002 x575003 x575004 x575005 x575006 x575007)) else (endonymref6_Right.j3 k false x575000 x575001 x575002 x575003 x575004 x575005 x575006 x575007)) else (endonymref6_Right.j3 k false x575000 x575001 x575002 x575003 x575004 x575005 x575006 x575007))) else (endonymref6_Right.j3 k false x575000 x575001 x575002 x575003 x575004 x575005 x575006 x575007)) else (if x76 = 5 then (if x3 = true then (if x4 = true then ((endonymref6_bare.f x575000 x575001 x575002 x575003 x575004 x575005 x575006 x575007 false true false false false).bind fun t587 => (if t587 = true then ((endonymref6_list.f k x575004 0 24).bind fun t588 => (if t588 = true then (some 0) else (some 61))) else (some 61))) else (some 61)) else (some 61)) else (if x76 = 13 then (if x3 = true then (if x4 = true then ((endonymref6_bare.f x575000 x575001 x575002 x575003 x575004 x575005 x575006 x575007 false true false false false).bind fun t589 => (if t589 = true then ((endonymref6_list.f k x575004 1 24).bind fun t590 => (if t590 = true then (some 0) else (some 61))) else (some 61))) else (some 61)) else (some 61)) else (if x76 = 6 then (if x3 = true then ((endonymref6_bare.f x575000 x575001 x575002 x575003 x575004 x575005 x575006 x575007 true false false false false).bind fun t591 => (if t591 = true then (if x575003 ≥ 1 then (if x575003 ≤ 254 then (some 0) else (some 61)) else (some 61)) else (some 61))) else (some 61)) else (if x76 = 7 then (if x3 = true then (if x4 = true then ((endonymref6_bare.f x575000 x575001 x575002 x575003 x575004 x575005 x575006 x575007 false true false false false).bind fun t592 => (if t592 = true then ((endonymref6_list.f k x575004 2 2).bind fun t593 => (if t593 = true then (some 0) else (some 61))) else (some 61))) else (some 61)) else (some 61)) else (if x76 = 8 then (if x3 = true then (if x4 = true then ((endonymref6_bare.f x575000 x575001 x575002 x575003 x575004 x575005 x575006 x575007 false true false false false).bind fun t594 => (if t594 = true then ((endonymref6_list.f k x575004 1 2).bind fun t595 => (if t595 = true then (some 0) else (some 61))) else (some 61))) else (some 61)) else (some 61)) else (if x76 = 9 then (if x3 = true then ((endonymref6_bare.f x575000 x575001 x575002 x575003 x575004 x575005 x575006 x575007 true false false false false).bind fun t596 => (if t596 = true then (if x575003 ≥ 0 then (if x575003 ≤ 10 then (some 0) else (some 61)) else (some 61)) else (some 61))) else (some 61)) else (if x76 = 10 then (if x3 = true then ((endonymref6_bare.f x575000 x575001 x575002 x575003 x575004 x575005 x575006 x575007 true false false false false).bind fun t597 => (if t597 = true then (if x575003 ≥ 0 then (if x575003 ≤ 5 then (some 0) else (some 61)) else (some 61)) else (some 61))) else (some 61)) else (if x76 = 12 then (if x3 = true then ((endonymref6_bare.f x575000 x575001 x575002 x575003 x575004 x575005 x575006 x575007 false false true false false).bind fun t598 => (if t598 = true then ((endonymref5_Name.f k x575005).bind fun t599 => (if t599 = true then (some 0) else (some 61))) else (some 61))) else (some 61)) else (if x3 = true then ((endonymref6_bare.f x575000 x575001 x575002 x575003 x575004 x575005 x575006 x575007 false false false false true).bind fun t600 => (if t600 = true then ((endonymref6_weight.f x575007).bind fun t601 => (if t601 = true then (some 0) else (some 61))) else (some 61))) else (some 61))))))))))))
def endonymref6_Right.j3 : Nat → Bool → Int → Int → Int → Int → List Int → ByteArray → ByteArray → Nat → Option (Int)
 | 0, _, _, _, _, _, _, _, _, _ => none
 | k + 1, x3, x575000, x575001, x575002, x575003, x575004, x575005, x575006, x575007 => if x3 = true then (if 0 < (x575004.length : Int) then (if (wrap64 ((wrap64 ((wrap64 (rd x575004 0)) + x575002)) - x575001)) ≤ 1114111 then (if (wrap64 ((wrap64 ((wrap64 (rd x575004 0)) + x575002)) - x575001)) < 55296 then (some 0) else (if ((wrap64 (rd x575004 0)) > 57343) then (some 0) else (some 61))) else (some 61)) else (none)) else (some 61)
end
def endonymref6_Right.f (k : Nat) (a0_0 : Int) (a0_1 : Int) (a0_2 : Int) (a0_3 : Int) (l0_4 : List Int) (a0_5 : ByteArray) (a0_6 : ByteArray) (a0_7 : Nat) : Option (Int) := (endonymref6_Family.f a0_0).bind fun t575 => (if t575 = 0 then (some 60) else (if a0_0 = 15 then (if a0_1 = 0 then (if a0_2 = 0 then ((endonymref6_bare.f a0_0 a0_1 a0_2 a0_3 l0_4 a0_5 a0_6 a0_7 false false true true true).bind fun t576 => (if t576 = true then ((endonymref5_Name.f k a0_5).bind fun t577 => (if t577 = true then ((endonymref5_Name.f k a0_6).bind fun t578 => (if t578 = true then (if a0_5.toList = a0_6.toList then (some 61) else ((endonymref6_weight.f a0_7).bind fun t579 => (if t579 = true then (some 0) else (some 61)))) else (some 61))) else (some 61))) else (some 61))) else (some 61)) else (some 61)) else (if a0_1 ≥ 0 then (if a0_1 ≤ a0_2 then (endonymref6_Right.j0 k (decide (a0_2 ≤ 1114111)) a0_0 a0_1 a0_2 a0_3 l0_4 a0_5 a0_6 a0_7) else (endonymref6_Right.j0 k false a0_0 a0_1 a0_2 a0_3 l0_4 a0_5 a0_6 a0_7)) else (endonymref6_Right.j0 k false a0_0 a0_1 a0_2 a0_3 l0_4 a0_5 a0_6 a0_7))))
theorem endonymref6_Right.mono_l : ∀ k, (∀ y0 y1 y2 y3 y4 y5 y6 y7 y8, LeO (endonymref6_Right.j0 k y0 y1 y2 y3 y4 y5 y6 y7 y8) (endonymref6_Right.j0 (k + 1) y0 y1 y2 y3 y4 y5 y6 y7 y8)) ∧ (∀ y0 y1 y2 y3 y4 y5 y6 y7 y8 y9, LeO (endonymref6_Right.j1 k y0 y1 y2 y3 y4 y5 y6 y7 y8 y9) (endonymref6_Right.j1 (k + 1) y0 y1 y2 y3 y4 y5 y6 y7 y8 y9)) ∧ (∀ y0 y1 y2 y3 y4 y5 y6 y7 y8 y9 y10 y11, LeO (endonymref6_Right.j2 k y0 y1 y2 y3 y4 y5 y6 y7 y8 y9 y10 y11) (endonymref6_Right.j2 (k + 1) y0 y1 y2 y3 y4 y5 y6 y7 y8 y9 y10 y11)) ∧ (∀ y0 y1 y2 y3 y4 y5 y6 y7 y8, LeO (endonymref6_Right.j3 k y0 y1 y2 y3 y4 y5 y6 y7 y8) (endonymref6_Right.j3 (k + 1) y0 y1 y2 y3 y4 y5 y6 y7 y8))
 | 0 => ⟨fun _ _ _ _ _ _ _ _ _ r h => by simp [endonymref6_Right.j0] at h, fun _ _ _ _ _ _ _ _ _ _ r h => by simp [endonymref6_Right.j1] at h, fun _ _ _ _ _ _ _ _ _ _ _ _ r h => by simp [endonymref6_Right.j2] at h, fun _ _ _ _ _ _ _ _ _ r h => by simp [endonymref6_Right.j3] at h⟩
 | k + 1 => by
  obtain ⟨ih0, ih1, ih2, ih3⟩ := endonymref6_Right.mono_l k
  refine ⟨?_, ?_, ?_, ?_⟩
  ·intro y0 y1 y2 y3 y4 y5 y6 y7 y8
   unfold endonymref6_Right.j0
   repeat' first | (with_reducible first | apply ih0 | apply ih1 | apply ih2 | apply ih3 | apply endonymref5_Name.mono | apply endonymref6_list.mono | apply LeO.refl | apply LeO.none | refine LeO.ite ?_ ?_ | refine LeO.bind ?_ (fun _ => ?_)) | apply LeO.none | refine LeO.ite ?_ ?_ | refine LeO.bind ?_ (fun _ => ?_)
  ·intro y0 y1 y2 y3 y4 y5 y6 y7 y8 y9
   unfold endonymref6_Right.j1
   repeat' first | (with_reducible first | apply ih0 | apply ih1 | apply ih2 | apply ih3 | apply endonymref5_Name.mono | apply endonymref6_list.mono | apply LeO.refl | apply LeO.none | refine LeO.ite ?_ ?_ | refine LeO.bind ?_ (fun _ => ?_)) | apply LeO.none | refine LeO.ite ?_ ?_ | refine LeO.bind ?_ (fun _ => ?_)
  ·intro y0 y1 y2 y3 y4 y5 y6 y7 y8 y9 y10 y11
   unfold endonymref6_Right.j2
   repeat' first | (with_reducible first | apply ih0 | apply ih1 | apply ih2 | apply ih3 | apply endonymref5_Name.mono | apply endonymref6_list.mono | apply LeO.refl | apply LeO.none | refine LeO.ite ?_ ?_ | refine LeO.bind ?_ (fun _ => ?_)) | apply LeO.none | refine LeO.ite ?_ ?_ | refine LeO.bind ?_ (fun _ => ?_)
  intro y0 y1 y2 y3 y4 y5 y6 y7 y8
  unfold endonymref6_Right.j3
  repeat' first | (with_reducible first | apply ih0 | apply ih1 | apply ih2 | apply ih3 | apply endonymref5_Name.mono | apply endonymref6_list.mono | apply LeO.refl | apply LeO.none | refine LeO.ite ?_ ?_ | refine LeO.bind ?_ (fun _ => ?_)) | apply LeO.none | refine LeO.ite ?_ ?_ | refine LeO.bind ?_ (fun _ => ?_)
theorem endonymref6_Right.mono : ∀ a0 a1 a2 a3 a4 a5 a6 a7 k, LeO (endonymref6_Right.f k a0 a1 a2 a3 a4 a5 a6 a7) (endonymref6_Right.f (k + 1) a0 a1 a2 a3 a4 a5 a6 a7) := by
 intro a0 a1 a2 a3 a4 a5 a6 a7 k
 obtain ⟨ih0, ih1, ih2, ih3⟩ := endonymref6_Right.mono_l k
 unfold endonymref6_Right.f
 repeat' first | (with_reducible first | apply ih0 | apply ih1 | apply ih2 | apply ih3 | apply endonymref5_Name.mono | apply endonymref6_list.mono | apply LeO.refl | apply LeO.none | refine LeO.ite ?_ ?_ | refine LeO.bind ?_ (fun _ => ?_)) | apply LeO.none | refine LeO.ite ?_ ?_ | refine LeO.bind ?_ (fun _ => ?_)
theorem endonymref6_Right.calls (k : Nat) (a0_0 : Int) (a0_1 : Int) (a0_2 : Int) (a0_3 : Int) (A0_4 : Option Addr) (c0_4 : Nat) (l0_4 : List Int) (a0_5 : ByteArray) (a0_6 : ByteArray) (a0_7 : Nat) (r : Int) (w : World) (hr0_4 : Kd.C (Kd.int .i32) w A0_4 l0_4.length l0_4) (hc0_4 : l0_4.length ≤ c0_4) (h : endonymref6_Right.f k a0_0 a0_1 a0_2 a0_3 l0_4 a0_5 a0_6 a0_7 = some r) :
  Calls Tryz.prog 19 #[.agg #[.int .i64 a0_0, .int .i64 a0_1, .int .i64 a0_2, .int .i64 a0_3, .slice A0_4 l0_4.length c0_4, .string a0_5, .string a0_6, .float .f64 a0_7]] w fun e w' => e = .returned (.int .i64 r) ∧ Below w.heap.size w w' := by
 have hu25 := Tryz.underlying25
 have HR0_4 := Aside0.mk hr0_4
 have HC0_4 := Aside0.mk hc0_4
 clear hr0_4 hc0_4
 have HB := Aside0.mk (Below.refl w.heap.size w)
 have H : ((endonymref6_Family.f a0_0).bind fun t575 => (if t575 = 0 then (some 60) else (if a0_0 = 15 then (if a0_1 = 0 then (if a0_2 = 0 then ((endonymref6_bare.f a0_0 a0_1 a0_2 a0_3 l0_4 a0_5 a0_6 a0_7 false false true true true).bind fun t576 => (if t576 = true then ((endonymref5_Name.f k a0_5).bind fun t577 => (if t577 = true then ((endonymref5_Name.f k a0_6).bind fun t578 => (if t578 = true then (if a0_5.toList = a0_6.toList then (some 61) else ((endonymref6_weight.f a0_7).bind fun t579 => (if t579 = true then (some 0) else (some 61)))) else (some 61))) else (some 61))) else (some 61))) else (some 61)) else (some 61)) else (if a0_1 ≥ 0 then (if a0_1 ≤ a0_2 then (endonymref6_Right.j0 k (decide (a0_2 ≤ 1114111)) a0_0 a0_1 a0_2 a0_3 l0_4 a0_5 a0_6 a0_7) else (endonymref6_Right.j0 k false a0_0 a0_1 a0_2 a0_3 l0_4 a0_5 a0_6 a0_7)) else (endonymref6_Right.j0 k false a0_0 a0_1 a0_2 a0_3 l0_4 a0_5 a0_6 a0_7))))) = some r := h
 clear h
 obtain ⟨t575, A2, H⟩ := sqO H
 try dsimp only at H
 by_cases c3 : t575 = 0
 ·rw [if_pos c3] at H
  have c3b0 := beq_iff_eq.mpr c3
  have c3b1 := bne_eq_false_iff_eq.mpr c3
  clear c3
  obtain rfl := Option.some.inj H
  go_enter Tryz.func19, Tryz.ntmps19
  go_wp2_with (first | ((with_reducible refine gate_dst (N := 1) rfl ?_); refine box_event ?hg (N := 1) ?hd (cs := #[.int .i64 a0_0, .int .i64 a0_1, .int .i64 a0_2, .int .i64 a0_3, .slice A0_4 l0_4.length c0_4, .string a0_5, .string a0_6, .float .f64 a0_7]) (t := 25) ?hr ?_; (case hd => rfl); (case hg => rfl); (case hr => first | (go_simp; done) | (go_simp; rfl)); intro gb574 hg w4 hbox hb; have n0_ := Aside0.mk (below_step sqB hb); have n1_ := Aside0.mk (hbox); have n2_ := Aside0.mk ((by rw [hg]; exact (below_size sqB) : w.heap.size ≤ gb574)); have n3_ := Aside0.mk ((by rw [hg]; exact (below_size sqB) : w.heap.size ≤ gb574)); clear HB; have HB := n0_; have BK574 := n1_; have GW574 := n2_; have GE574 := n3_; clear n0_ n1_ n2_ n3_; clear hb hbox hg; obtain ⟨z0, z1, z2, z3, z4, z5, z6, z7, y0, y1, y2, y3, y4, y5, y6, y7⟩ := box8 BK574.out) | ((with_reducible refine gate_callee (f := 33) rfl ?_); refine goesL_ (some 9) rfl rfl Tryz.func33 (by kernel_rfl) rfl #[.int .i64 a0_0] rfl sqA ?_; (with_reducible refine (endonymref6_Family.calls a0_0 t575 _ A2.out).mono ?_); rintro e w' ⟨rfl, ⟨nd, rfl⟩⟩; refine ⟨_, rfl, ?_⟩))
  go_ret
  exact ⟨sqE', sqH⟩
 rw [if_neg c3] at H
 have c3b0 := beq_eq_false_iff_ne.mpr c3
 have c3b1 := bne_iff_ne.mpr c3
 by_cases c6 : a0_0 = 15
 ·as_aux_lemma =>
   rw [if_pos c6] at H
   have c6b0 := beq_iff_eq.mpr c6
   have c6b1 := bne_eq_false_iff_eq.mpr c6
   clear c6
   by_cases c7 : a0_1 = 0
   case neg =>
    rw [if_neg c7] at H
    have c7b0 := beq_eq_false_iff_ne.mpr c7
    have c7b1 := bne_iff_ne.mpr c7
    obtain rfl := Option.some.inj H
    go_enter Tryz.func19, Tryz.ntmps19
    go_wp2_with (first | ((with_reducible refine gate_dst (N := 1) rfl ?_); refine box_event ?hg (N := 1) ?hd (cs := #[.int .i64 a0_0, .int .i64 a0_1, .int .i64 a0_2, .int .i64 a0_3, .slice A0_4 l0_4.length c0_4, .string a0_5, .string a0_6, .float .f64 a0_7]) (t := 25) ?hr ?_; (case hd => rfl); (case hg => rfl); (case hr => first | (go_simp; done) | (go_simp; rfl)); intro gb574 hg w43 hbox hb; have n0_ := Aside0.mk (below_step sqB hb); have n1_ := Aside0.mk (hbox); have n2_ := Aside0.mk ((by rw [hg]; exact (below_size sqB) : w.heap.size ≤ gb574)); have n3_ := Aside0.mk ((by rw [hg]; exact (below_size sqB) : w.heap.size ≤ gb574)); clear HB; have HB := n0_; have BK574 := n1_; have GW574 := n2_; have GE574 := n3_; clear n0_ n1_ n2_ n3_; clear hb hbox hg; obtain ⟨z0, z1, z2, z3, z4, z5, z6, z7, y0, y1, y2, y3, y4, y5, y6, y7⟩ := box8 BK574.out) | ((with_reducible refine gate_callee (f := 33) rfl ?_); refine goesL_ (some 9) rfl rfl Tryz.func33 (by kernel_rfl) rfl #[.int .i64 a0_0] rfl sqA ?_; (with_reducible refine (endonymref6_Family.calls a0_0 t575 _ A2.out).mono ?_); rintro e w' ⟨rfl, ⟨nd, rfl⟩⟩; refine ⟨_, rfl, ?_⟩))
    go_ret
    exact ⟨sqE', sqH⟩
   rw [if_pos c7] at H
   have c7b0 := beq_iff_eq.mpr c7
   have c7b1 := bne_eq_false_iff_eq.mpr c7
   clear c7
   by_cases c8 : a0_2 = 0
   case neg =>
    rw [if_neg c8] at H
    have c8b0 := beq_eq_false_iff_ne.mpr c8
    have c8b1 := bne_iff_ne.mpr c8
    obtain rfl := Option.some.inj H
    go_enter Tryz.func19, Tryz.ntmps19
    go_wp2_with (first | ((with_reducible refine gate_dst (N := 1) rfl ?_); refine box_event ?hg (N := 1) ?hd (cs := #[.int .i64 a0_0, .int .i64 a0_1, .int .i64 a0_2, .int .i64 a0_3, .slice A0_4 l0_4.length c0_4, .string a0_5, .string a0_6, .float .f64 a0_7]) (t := 25) ?hr ?_; (case hd => rfl); (case hg => rfl); (case hr => first | (go_simp; done) | (go_simp; rfl)); intro gb574 hg w41 hbox hb; have n0_ := Aside0.mk (below_step sqB hb); have n1_ := Aside0.mk (hbox); have n2_ := Aside0.mk ((by rw [hg]; exact (below_size sqB) : w.heap.size ≤ gb574)); have n3_ := Aside0.mk ((by rw [hg]; exact (below_size sqB) : w.heap.size ≤ gb574)); clear HB; have HB := n0_; have BK574 := n1_; have GW574 := n2_; have GE574 := n3_; clear n0_ n1_ n2_ n3_; clear hb hbox hg; obtain ⟨z0, z1, z2, z3, z4, z5, z6, z7, y0, y1, y2, y3, y4, y5, y6, y7⟩ := box8 BK574.out) | ((with_reducible refine gate_callee (f := 33) rfl ?_); refine goesL_ (some 9) rfl rfl Tryz.func33 (by kernel_rfl) rfl #[.int .i64 a0_0] rfl sqA ?_; (with_reducible refine (endonymref6_Family.calls a0_0 t575 _ A2.out).mono ?_); rintro e w' ⟨rfl, ⟨nd, rfl⟩⟩; refine ⟨_, rfl, ?_⟩))
    go_ret
    exact ⟨sqE', sqH⟩
   rw [if_pos c8] at H
   have c8b0 := beq_iff_eq.mpr c8
   have c8b1 := bne_eq_false_iff_eq.mpr c8
   clear c8
   obtain ⟨t576, A9, H⟩ := sqO H
   try dsimp only at H
   by_cases c10 : t576 = true
   case neg =>
    replace c10 := Bool.eq_false_iff.mpr c10
    subst c10
    rw [if_neg (show ¬ (false = true) by decide)] at H
    obtain rfl := Option.some.inj H
    go_enter Tryz.func19, Tryz.ntmps19
    go_wp2_with (first | ((with_reducible refine gate_dst (N := 1) rfl ?_); refine box_event ?hg (N := 1) ?hd (cs := #[.int .i64 a0_0, .int .i64 a0_1, .int .i64 a0_2, .int .i64 a0_3, .slice A0_4 l0_4.length c0_4, .string a0_5, .string a0_6, .float .f64 a0_7]) (t := 25) ?hr ?_; (case hd => rfl); (case hg => rfl); (case hr => first | (go_simp; done) | (go_simp; rfl)); intro gb574 hg w38 hbox hb; have n0_ := Aside0.mk (below_step sqB hb); have n1_ := Aside0.mk (hbox); have n2_ := Aside0.mk ((by rw [hg]; exact (below_size sqB) : w.heap.size ≤ gb574)); have n3_ := Aside0.mk ((by rw [hg]; exact (below_size sqB) : w.heap.size ≤ gb574)); clear HB; have HB := n0_; have BK574 := n1_; have GW574 := n2_; have GE574 := n3_; clear n0_ n1_ n2_ n3_; clear hb hbox hg; obtain ⟨z0, z1, z2, z3, z4, z5, z6, z7, y0, y1, y2, y3, y4, y5, y6, y7⟩ := box8 BK574.out) | ((with_reducible refine gate_callee (f := 33) rfl ?_); refine goesL_ (some 9) rfl rfl Tryz.func33 (by kernel_rfl) rfl #[.int .i64 a0_0] rfl sqA ?_; (with_reducible refine (endonymref6_Family.calls a0_0 t575 _ A2.out).mono ?_); rintro e w' ⟨rfl, ⟨nd, rfl⟩⟩; refine ⟨_, rfl, ?_⟩) | (go_at_call 53; (with_reducible refine (endonymref6_bare.calls a0_0 a0_1 a0_2 a0_3 _ _ l0_4 a0_5 a0_6 a0_7 false false true true true false _ ?side1 ?side2 A9.out).mono ?_); (case side1 => exact Kd.C_below HR0_4.out sqH); (case side2 => exact HC0_4.out); rintro e w40 ⟨rfl, hb⟩; replace BK574 := Aside0.mk (sqM BK574.out hb); replace HB := Aside0.mk (below_step sqH hb); (try clear hb)))
    go_ret
    exact ⟨sqE', sqH⟩
   subst c10
   rw [if_pos rfl] at H
   obtain ⟨t577, A11, H⟩ := sqO H
   try dsimp only at H
   by_cases c12 : t577 = true
   case neg =>
    replace c12 := Bool.eq_false_iff.mpr c12
    subst c12
    rw [if_neg (show ¬ (false = true) by decide)] at H
    obtain rfl := Option.some.inj H
    go_enter Tryz.func19, Tryz.ntmps19
    go_wp2_with (first | ((with_reducible refine gate_dst (N := 1) rfl ?_); refine box_event ?hg (N := 1) ?hd (cs := #[.int .i64 a0_0, .int .i64 a0_1, .int .i64 a0_2, .int .i64 a0_3, .slice A0_4 l0_4.length c0_4, .string a0_5, .string a0_6, .float .f64 a0_7]) (t := 25) ?hr ?_; (case hd => rfl); (case hg => rfl); (case hr => first | (go_simp; done) | (go_simp; rfl)); intro gb574 hg w34 hbox hb; have n0_ := Aside0.mk (below_step sqB hb); have n1_ := Aside0.mk (hbox); have n2_ := Aside0.mk ((by rw [hg]; exact (below_size sqB) : w.heap.size ≤ gb574)); have n3_ := Aside0.mk ((by rw [hg]; exact (below_size sqB) : w.heap.size ≤ gb574)); clear HB; have HB := n0_; have BK574 := n1_; have GW574 := n2_; have GE574 := n3_; clear n0_ n1_ n2_ n3_; clear hb hbox hg; obtain ⟨z0, z1, z2, z3, z4, z5, z6, z7, y0, y1, y2, y3, y4, y5, y6, y7⟩ := box8 BK574.out) | ((with_reducible refine gate_callee (f := 33) rfl ?_); refine goesL_ (some 9) rfl rfl Tryz.func33 (by kernel_rfl) rfl #[.int .i64 a0_0] rfl sqA ?_; (with_reducible refine (endonymref6_Family.calls a0_0 t575 _ A2.out).mono ?_); rintro e w' ⟨rfl, ⟨nd, rfl⟩⟩; refine ⟨_, rfl, ?_⟩) | (go_at_call 53; (with_reducible refine (endonymref6_bare.calls a0_0 a0_1 a0_2 a0_3 _ _ l0_4 a0_5 a0_6 a0_7 false false true true true true _ ?side1 ?side2 A9.out).mono ?_); (case side1 => exact Kd.C_below HR0_4.out sqH); (case side2 => exact HC0_4.out); rintro e w36 ⟨rfl, hb⟩; replace BK574 := Aside0.mk (sqM BK574.out hb); replace HB := Aside0.mk (below_step sqH hb); (try clear hb); obtain ⟨z0, z1, z2, z3, z4, z5, z6, z7, y0, y1, y2, y3, y4, y5, y6, y7⟩ := box8 BK574.out) | (go_at_call 54; (with_reducible refine (endonymref5_Name.calls k a0_5 false _ A11.out).mono ?_); rintro e w' ⟨rfl, ⟨nd, rfl⟩⟩))
    go_ret
    exact ⟨sqE', sqH⟩
   subst c12
   rw [if_pos rfl] at H
   obtain ⟨t578, A13, H⟩ := sqO H
   try dsimp only at H
   by_cases c14 : t578 = true
   case neg =>
    replace c14 := Bool.eq_false_iff.mpr c14
    subst c14
    rw [if_neg (show ¬ (false = true) by decide)] at H
    obtain rfl := Option.some.inj H
    go_enter Tryz.func19, Tryz.ntmps19
    go_wp2_with (first | ((with_reducible refine gate_dst (N := 1) rfl ?_); refine box_event ?hg (N := 1) ?hd (cs := #[.int .i64 a0_0, .int .i64 a0_1, .int .i64 a0_2, .int .i64 a0_3, .slice A0_4 l0_4.length c0_4, .string a0_5, .string a0_6, .float .f64 a0_7]) (t := 25) ?hr ?_; (case hd => rfl); (case hg => rfl); (case hr => first | (go_simp; done) | (go_simp; rfl)); intro gb574 hg w30 hbox hb; have n0_ := Aside0.mk (below_step sqB hb); have n1_ := Aside0.mk (hbox); have n2_ := Aside0.mk ((by rw [hg]; exact (below_size sqB) : w.heap.size ≤ gb574)); have n3_ := Aside0.mk ((by rw [hg]; exact (below_size sqB) : w.heap.size ≤ gb574)); clear HB; have HB := n0_; have BK574 := n1_; have GW574 := n2_; have GE574 := n3_; clear n0_ n1_ n2_ n3_; clear hb hbox hg; obtain ⟨z0, z1, z2, z3, z4, z5, z6, z7, y0, y1, y2, y3, y4, y5, y6, y7⟩ := box8 BK574.out) | ((with_reducible refine gate_callee (f := 33) rfl ?_); refine goesL_ (some 9) rfl rfl Tryz.func33 (by kernel_rfl) rfl #[.int .i64 a0_0] rfl sqA ?_; (with_reducible refine (endonymref6_Family.calls a0_0 t575 _ A2.out).mono ?_); rintro e w' ⟨rfl, ⟨nd, rfl⟩⟩; refine ⟨_, rfl, ?_⟩) | (go_at_call 53; (with_reducible refine (endonymref6_bare.calls a0_0 a0_1 a0_2 a0_3 _ _ l0_4 a0_5 a0_6 a0_7 false false true true true true _ ?side1 ?side2 A9.out).mono ?_); (case side1 => exact Kd.C_below HR0_4.out sqH); (case side2 => exact HC0_4.out); rintro e w32 ⟨rfl, hb⟩; replace BK574 := Aside0.mk (sqM BK574.out hb); replace HB := Aside0.mk (below_step sqH hb); (try clear hb); obtain ⟨z0, z1, z2, z3, z4, z5, z6, z7, y0, y1, y2, y3, y4, y5, y6, y7⟩ := box8 BK574.out) | (go_at_call 54; (with_reducible refine (endonymref5_Name.calls k a0_5 true _ A11.out).mono ?_); rintro e w' ⟨rfl, ⟨nd, rfl⟩⟩) | (go_at_call 54; (with_reducible refine (endonymref5_Name.calls k a0_6 false _ A13.out).mono ?_); rintro e w' ⟨rfl, ⟨nd, rfl⟩⟩))
    go_ret
    exact ⟨sqE', sqH⟩
   subst c14
   rw [if_pos rfl] at H
   by_cases c15 : a0_5.toList = a0_6.toList
   ·rw [if_pos c15] at H
    have c15b0 := beq_iff_eq.mpr c15
    have c15b1 := bne_eq_false_iff_eq.mpr c15
    clear c15
    obtain rfl := Option.some.inj H
    go_enter Tryz.func19, Tryz.ntmps19
    go_wp2_with (first | ((with_reducible refine gate_dst (N := 1) rfl ?_); refine box_event ?hg (N := 1) ?hd (cs := #[.int .i64 a0_0, .int .i64 a0_1, .int .i64 a0_2, .int .i64 a0_3, .slice A0_4 l0_4.length c0_4, .string a0_5, .string a0_6, .float .f64 a0_7]) (t := 25) ?hr ?_; (case hd => rfl); (case hg => rfl); (case hr => first | (go_simp; done) | (go_simp; rfl)); intro gb574 hg w16 hbox hb; have n0_ := Aside0.mk (below_step sqB hb); have n1_ := Aside0.mk (hbox); have n2_ := Aside0.mk ((by rw [hg]; exact (below_size sqB) : w.heap.size ≤ gb574)); have n3_ := Aside0.mk ((by rw [hg]; exact (below_size sqB) : w.heap.size ≤ gb574)); clear HB; have HB := n0_; have BK574 := n1_; have GW574 := n2_; have GE574 := n3_; clear n0_ n1_ n2_ n3_; clear hb hbox hg; obtain ⟨z0, z1, z2, z3, z4, z5, z6, z7, y0, y1, y2, y3, y4, y5, y6, y7⟩ := box8 BK574.out) | ((with_reducible refine gate_callee (f := 33) rfl ?_); refine goesL_ (some 9) rfl rfl Tryz.func33 (by kernel_rfl) rfl #[.int .i64 a0_0] rfl sqA ?_; (with_reducible refine (endonymref6_Family.calls a0_0 t575 _ A2.out).mono ?_); rintro e w' ⟨rfl, ⟨nd, rfl⟩⟩; refine ⟨_, rfl, ?_⟩) | (go_at_call 53; (with_reducible refine (endonymref6_bare.calls a0_0 a0_1 a0_2 a0_3 _ _ l0_4 a0_5 a0_6 a0_7 false false true true true true _ ?side1 ?side2 A9.out).mono ?_); (case side1 => exact Kd.C_below HR0_4.out sqH); (case side2 => exact HC0_4.out); rintro e w18 ⟨rfl, hb⟩; replace BK574 := Aside0.mk (sqM BK574.out hb); replace HB := Aside0.mk (below_step sqH hb); (try clear hb); obtain ⟨z0, z1, z2, z3, z4, z5, z6, z7, y0, y1, y2, y3, y4, y5, y6, y7⟩ := box8 BK574.out) | (go_at_call 54; (with_reducible refine (endonymref5_Name.calls k a0_5 true _ A11.out).mono ?_); rintro e w' ⟨rfl, ⟨nd, rfl⟩⟩) | (go_at_call 54; (with_reducible refine (endonymref5_Name.calls k a0_6 true _ A13.out).mono ?_); rintro e w' ⟨rfl, ⟨nd, rfl⟩⟩))
    go_ret
    exact ⟨sqE', sqH⟩
   rw [if_neg c15] at H
   have c15b0 := beq_eq_false_iff_ne.mpr c15
   have c15b1 := bne_iff_ne.mpr c15
   obtain ⟨t579, A20, H⟩ := sqO H
   try dsimp only at H
   by_cases c21 : t579 = true
   ·subst c21
    rw [if_pos rfl] at H
    obtain rfl := Option.some.inj H
    go_enter Tryz.func19, Tryz.ntmps19
    go_wp2_with (first | ((with_reducible refine gate_dst (N := 1) rfl ?_); refine box_event ?hg (N := 1) ?hd (cs := #[.int .i64 a0_0, .int .i64 a0_1, .int .i64 a0_2, .int .i64 a0_3, .slice A0_4 l0_4.length c0_4, .string a0_5, .string a0_6, .float .f64 a0_7]) (t := 25) ?hr ?_; (case hd => rfl); (case hg => rfl); (case hr => first | (go_simp; done) | (go_simp; rfl)); intro gb574 hg w22 hbox hb; have n0_ := Aside0.mk (below_step sqB hb); have n1_ := Aside0.mk (hbox); have n2_ := Aside0.mk ((by rw [hg]; exact (below_size sqB) : w.heap.size ≤ gb574)); have n3_ := Aside0.mk ((by rw [hg]; exact (below_size sqB) : w.heap.size ≤ gb574)); clear HB; have HB := n0_; have BK574 := n1_; have GW574 := n2_; have GE574 := n3_; clear n0_ n1_ n2_ n3_; clear hb hbox hg; obtain ⟨z0, z1, z2, z3, z4, z5, z6, z7, y0, y1, y2, y3, y4, y5, y6, y7⟩ := box8 BK574.out) | ((with_reducible refine gate_callee (f := 33) rfl ?_); refine goesL_ (some 9) rfl rfl Tryz.func33 (by kernel_rfl) rfl #[.int .i64 a0_0] rfl sqA ?_; (with_reducible refine (endonymref6_Family.calls a0_0 t575 _ A2.out).mono ?_); rintro e w' ⟨rfl, ⟨nd, rfl⟩⟩; refine ⟨_, rfl, ?_⟩) | (go_at_call 53; (with_reducible refine (endonymref6_bare.calls a0_0 a0_1 a0_2 a0_3 _ _ l0_4 a0_5 a0_6 a0_7 false false true true true true _ ?side1 ?side2 A9.out).mono ?_); (case side1 => exact Kd.C_below HR0_4.out sqH); (case side2 => exact HC0_4.out); rintro e w24 ⟨rfl, hb⟩; replace BK574 := Aside0.mk (sqM BK574.out hb); replace HB := Aside0.mk (below_step sqH hb); (try clear hb); obtain ⟨z0, z1, z2, z3, z4, z5, z6, z7, y0, y1, y2, y3, y4, y5, y6, y7⟩ := box8 BK574.out) | (go_at_call 54; (with_reducible refine (endonymref5_Name.calls k a0_5 true _ A11.out).mono ?_); rintro e w' ⟨rfl, ⟨nd, rfl⟩⟩) | (go_at_call 54; (with_reducible refine (endonymref5_Name.calls k a0_6 true _ A13.out).mono ?_); rintro e w' ⟨rfl, ⟨nd, rfl⟩⟩) | (go_at_call 55; (with_reducible refine (endonymref6_weight.calls a0_7 true _ A20.out).mono ?_); rintro e w' ⟨rfl, ⟨nd, rfl⟩⟩))
    go_ret
    exact ⟨sqE', sqH⟩
   replace c21 := Bool.eq_false_iff.mpr c21
   subst c21
   rw [if_neg (show ¬ (false = true) by decide)] at H
   obtain rfl := Option.some.inj H
   go_enter Tryz.func19, Tryz.ntmps19
   go_wp2_with (first | ((with_reducible refine gate_dst (N := 1) rfl ?_); refine box_event ?hg (N := 1) ?hd (cs := #[.int .i64 a0_0, .int .i64 a0_1, .int .i64 a0_2, .int .i64 a0_3, .slice A0_4 l0_4.length c0_4, .string a0_5, .string a0_6, .float .f64 a0_7]) (t := 25) ?hr ?_; (case hd => rfl); (case hg => rfl); (case hr => first | (go_simp; done) | (go_simp; rfl)); intro gb574 hg w26 hbox hb; have n0_ := Aside0.mk (below_step sqB hb); have n1_ := Aside0.mk (hbox); have n2_ := Aside0.mk ((by rw [hg]; exact (below_size sqB) : w.heap.size ≤ gb574)); have n3_ := Aside0.mk ((by rw [hg]; exact (below_size sqB) : w.heap.size ≤ gb574)); clear HB; have HB := n0_; have BK574 := n1_; have GW574 := n2_; have GE574 := n3_; clear n0_ n1_ n2_ n3_; clear hb hbox hg; obtain ⟨z0, z1, z2, z3, z4, z5, z6, z7, y0, y1, y2, y3, y4, y5, y6, y7⟩ := box8 BK574.out) | ((with_reducible refine gate_callee (f := 33) rfl ?_); refine goesL_ (some 9) rfl rfl Tryz.func33 (by kernel_rfl) rfl #[.int .i64 a0_0] rfl sqA ?_; (with_reducible refine (endonymref6_Family.calls a0_0 t575 _ A2.out).mono ?_); rintro e w' ⟨rfl, ⟨nd, rfl⟩⟩; refine ⟨_, rfl, ?_⟩) | (go_at_call 53; (with_reducible refine (endonymref6_bare.calls a0_0 a0_1 a0_2 a0_3 _ _ l0_4 a0_5 a0_6 a0_7 false false true true true true _ ?side1 ?side2 A9.out).mono ?_); (case side1 => exact Kd.C_below HR0_4.out sqH); (case side2 => exact HC0_4.out); rintro e w28 ⟨rfl, hb⟩; replace BK574 := Aside0.mk (sqM BK574.out hb); replace HB := Aside0.mk (below_step sqH hb); (try clear hb); obtain ⟨z0, z1, z2, z3, z4, z5, z6, z7, y0, y1, y2, y3, y4, y5, y6, y7⟩ := box8 BK574.out) | (go_at_call 54; (with_reducible refine (endonymref5_Name.calls k a0_5 true _ A11.out).mono ?_); rintro e w' ⟨rfl, ⟨nd, rfl⟩⟩) | (go_at_call 54; (with_reducible refine (endonymref5_Name.calls k a0_6 true _ A13.out).mono ?_); rintro e w' ⟨rfl, ⟨nd, rfl⟩⟩) | (go_at_call 55; (with_reducible refine (endonymref6_weight.calls a0_7 false _ A20.out).mono ?_); rintro e w' ⟨rfl, ⟨nd, rfl⟩⟩))
   go_ret
   exact ⟨sqE', sqH⟩
 rw [if_neg c6] at H
 have c6b0 := beq_eq_false_iff_ne.mpr c6
 have c6b1 := bne_iff_ne.mpr c6
 have HC45 := Aside0.mk H
 clear H
 go_enter Tryz.func19, Tryz.ntmps19
 go_upto_region 7 with (first | ((with_reducible refine gate_dst (N := 1) rfl ?_); refine box_event ?hg (N := 1) ?hd (cs := #[.int .i64 a0_0, .int .i64 a0_1, .int .i64 a0_2, .int .i64 a0_3, .slice A0_4 l0_4.length c0_4, .string a0_5, .string a0_6, .float .f64 a0_7]) (t := 25) ?hr ?_; (case hd => rfl); (case hg => rfl); (case hr => first | (go_simp; done) | (go_simp; rfl)); intro gb574 hg w46 hbox hb; have n0_ := Aside0.mk (below_step sqB hb); have n1_ := Aside0.mk (hbox); have n2_ := Aside0.mk ((by rw [hg]; exact (below_size sqB) : w.heap.size ≤ gb574)); have n3_ := Aside0.mk ((by rw [hg]; exact (below_size sqB) : w.heap.size ≤ gb574)); clear HB; have HB := n0_; have BK574 := n1_; have GW574 := n2_; have GE574 := n3_; clear n0_ n1_ n2_ n3_; clear hb hbox hg; obtain ⟨z0, z1, z2, z3, z4, z5, z6, z7, y0, y1, y2, y3, y4, y5, y6, y7⟩ := box8 BK574.out) | ((with_reducible refine gate_callee (f := 33) rfl ?_); refine goesL_ (some 9) rfl rfl Tryz.func33 (by kernel_rfl) rfl #[.int .i64 a0_0] rfl sqA ?_; (with_reducible refine (endonymref6_Family.calls a0_0 t575 _ A2.out).mono ?_); rintro e w' ⟨rfl, ⟨nd, rfl⟩⟩; refine ⟨_, rfl, ?_⟩))
 (try simp only [Act.put, List.setIfInBounds_toArray, List.set_cons_zero, List.set_cons_succ])
 go_cut [3] (fun v3 wc => ∃ (kq : Nat) (x3_44 : Bool), v3 = .bool x3_44 ∧ Aside0 (endonymref6_Right.j0 kq x3_44 a0_0 a0_1 a0_2 a0_3 l0_4 a0_5 a0_6 a0_7 = some r) ∧ Aside0 (kq ≤ k) ∧ Aside0 (wc.heap[gb574]? = some (.cells #[.int .i64 a0_0, .int .i64 a0_1, .int .i64 a0_2, .int .i64 a0_3, (.slice A0_4 l0_4.length c0_4), .string a0_5, .string a0_6, .float .f64 a0_7] 25 (0, 0))) ∧ Aside0 (Below w.heap.size w wc))
 case first =>
  as_aux_lemma =>
   have H := HC45.out
   clear HC45
   by_cases c48 : a0_1 ≥ 0
   case neg =>
    as_aux_lemma =>
     rw [if_neg c48] at H
     have c48b0 := decide_eq_false c48
     clear c48
     (first | rw [c48b0] | (simp only [i64_w, i32_w]; rw [c48b0]) | skip)
     have H' := Aside0.mk H
     clear H
     obtain ⟨z0, z1, z2, z3, z4, z5, z6, z7, y0, y1, y2, y3, y4, y5, y6, y7⟩ := box8 BK574.out
     go_wp2
     go_meet
     case rel => exact ⟨_, (false), sqE, H', ⟨by first | omega | exact Nat.le_refl _⟩, ⟨by (with_reducible repeat (first | refine blk_drewN ?_ _ | refine blk_drew ?_ | refine blk_alloc ?_ _)); exact BK574.out⟩, ⟨sqH⟩⟩
   rw [if_pos c48] at H
   have c48b0 := decide_eq_true c48
   clear c48
   (first | rw [c48b0] | (simp only [i64_w, i32_w]; rw [c48b0]) | skip)
   by_cases c49 : a0_1 ≤ a0_2
   ·rw [if_pos c49] at H
    have c49b0 := decide_eq_true c49
    clear c49
    have H' := Aside0.mk H
    clear H
    obtain ⟨z0, z1, z2, z3, z4, z5, z6, z7, y0, y1, y2, y3, y4, y5, y6, y7⟩ := box8 BK574.out
    go_wp2
    go_meet
    case rel => exact ⟨_, (decide (a0_2 ≤ 1114111)), sqE, H', ⟨by first | omega | exact Nat.le_refl _⟩, ⟨by (with_reducible repeat (first | refine blk_drewN ?_ _ | refine blk_drew ?_ | refine blk_alloc ?_ _)); exact BK574.out⟩, ⟨sqH⟩⟩
   rw [if_neg c49] at H
   have c49b0 := decide_eq_false c49
   clear c49
   have H' := Aside0.mk H
   clear H
   obtain ⟨z0, z1, z2, z3, z4, z5, z6, z7, y0, y1, y2, y3, y4, y5, y6, y7⟩ := box8 BK574.out
   go_wp2
   go_meet
   case rel => exact ⟨_, (false), sqE, H', ⟨by first | omega | exact Nat.le_refl _⟩, ⟨by (with_reducible repeat (first | refine blk_drewN ?_ _ | refine blk_drew ?_ | refine blk_alloc ?_ _)); exact BK574.out⟩, ⟨sqH⟩⟩
 case rest =>
  as_aux_lemma =>
   clear HC45
   try clear c3
   try clear c3b0
   try clear c3b1
   try clear c6
   try clear c6b0
   try clear c6b1
   obtain ⟨kq, x3_44, rfl, HA, HJ44, BK574, HB⟩ := hcut
   cases kq with
   | zero => exact absurd HA.out (by simp [endonymref6_Right.j0])
   | succ kj44 =>
    have H := HA.out
    clear HA
    simp only [endonymref6_Right.j0] at H
    have HC53 := Aside0.mk H
    clear H
    go_upto_region 8 with (fail)
    go_cut [4] (fun v4 wc => ∃ (kq : Nat) (x4_52 : Bool), v4 = .bool x4_52 ∧ Aside0 (endonymref6_Right.j1 kq x3_44 x4_52 a0_0 a0_1 a0_2 a0_3 l0_4 a0_5 a0_6 a0_7 = some r) ∧ Aside0 (kq ≤ kj44) ∧ Aside0 (wc.heap[gb574]? = some (.cells #[.int .i64 a0_0, .int .i64 a0_1, .int .i64 a0_2, .int .i64 a0_3, (.slice A0_4 l0_4.length c0_4), .string a0_5, .string a0_6, .float .f64 a0_7] 25 (0, 0))) ∧ Aside0 (Below w.heap.size w wc))
    case first =>
     as_aux_lemma =>
      have H := HC53.out
      clear HC53
      by_cases c54 : a0_1 = a0_2
      case neg =>
       as_aux_lemma =>
        rw [if_neg c54] at H
        have c54b0 := beq_eq_false_iff_ne.mpr c54
        have c54b1 := bne_iff_ne.mpr c54
        (first | rw [c54b0] | (simp only [i64_w, i32_w]; rw [c54b0]) | skip)
        have H' := Aside0.mk H
        clear H
        obtain ⟨z0, z1, z2, z3, z4, z5, z6, z7, y0, y1, y2, y3, y4, y5, y6, y7⟩ := box8 BK574.out
        go_wp2
        go_meet
        case rel => exact ⟨_, (false), sqE, H', ⟨by have := HJ44.out; first | omega | exact Nat.le_refl _⟩, ⟨by (with_reducible repeat (first | refine blk_drewN ?_ _ | refine blk_drew ?_ | refine blk_alloc ?_ _)); exact BK574.out⟩, ⟨sqH⟩⟩
      rw [if_pos c54] at H
      have c54b0 := beq_iff_eq.mpr c54
      have c54b1 := bne_eq_false_iff_eq.mpr c54
      clear c54
      (first | rw [c54b0] | (simp only [i64_w, i32_w]; rw [c54b0]) | skip)
      obtain ⟨t580, A55, H⟩ := sqO H
      try dsimp only at H
      have H' := Aside0.mk H
      clear H
      obtain ⟨z0, z1, z2, z3, z4, z5, z6, z7, y0, y1, y2, y3, y4, y5, y6, y7⟩ := box8 BK574.out
      go_wp2_with (first | (go_at_call 56; (with_reducible refine (endonymref3_Valid.calls (wrap32 (Go.bits .and .i64 a0_1 2097151)) t580 _ A55.out).mono ?_); rintro e w' ⟨rfl, ⟨nd, rfl⟩⟩))
      go_meet
      case rel => exact ⟨_, (t580), sqE, H', ⟨by have := HJ44.out; first | omega | exact Nat.le_refl _⟩, ⟨by (with_reducible repeat (first | refine blk_drewN ?_ _ | refine blk_drew ?_ | refine blk_alloc ?_ _)); exact BK574.out⟩, ⟨sqH⟩⟩
    case rest =>
     as_aux_lemma =>
      clear HC53
      try clear c3
      try clear c3b0
      try clear c3b1
      try clear c6
      try clear c6b0
      try clear c6b1
      obtain ⟨kq, x4_52, rfl, HA, HJ52, BK574, HB⟩ := hcut
      cases kq with
      | zero => exact absurd HA.out (by simp [endonymref6_Right.j1])
      | succ kj52 =>
       have H := HA.out
       clear HA
       simp only [endonymref6_Right.j1] at H
       have HC58 := Aside0.mk H
       clear H
       obtain ⟨z0, z1, z2, z3, z4, z5, z6, z7, y0, y1, y2, y3, y4, y5, y6, y7⟩ := box8 BK574.out
       go_upto_if 87 with (fail)
       go_cut [87] (fun v87 wc => ∃ (kq : Nat) (x87_57 : Bool), v87 = .bool x87_57 ∧ Aside0 (endonymref6_Right.j2 kq x3_44 x4_52 a0_0 x87_57 a0_0 a0_1 a0_2 a0_3 l0_4 a0_5 a0_6 a0_7 = some r) ∧ Aside0 (kq ≤ kj52) ∧ Aside0 (wc.heap[gb574]? = some (.cells #[.int .i64 a0_0, .int .i64 a0_1, .int .i64 a0_2, .int .i64 a0_3, (.slice A0_4 l0_4.length c0_4), .string a0_5, .string a0_6, .float .f64 a0_7] 25 (0, 0))) ∧ Aside0 (Below w.heap.size w wc))
       case first =>
        as_aux_lemma =>
         have H := HC58.out
         clear HC58
         by_cases c60 : a0_0 = 1
         ·as_aux_lemma =>
           rw [if_pos c60] at H
           have c60b0 := beq_iff_eq.mpr c60
           have c60b1 := bne_eq_false_iff_eq.mpr c60
           clear c60
           (first | rw [c60b0] | (simp only [i64_w, i32_w]; rw [c60b0]) | skip)
           have H' := Aside0.mk H
           clear H
           go_wp2
           go_meet
           case rel => exact ⟨_, ((a0_0 == 1)), sqE, H', ⟨by have := HJ44.out; have := HJ52.out; first | omega | exact Nat.le_refl _⟩, ⟨by (with_reducible repeat (first | refine blk_drewN ?_ _ | refine blk_drew ?_ | refine blk_alloc ?_ _)); exact BK574.out⟩, ⟨sqH⟩⟩
         rw [if_neg c60] at H
         have c60b0 := beq_eq_false_iff_ne.mpr c60
         have c60b1 := bne_iff_ne.mpr c60
         (first | rw [c60b0] | (simp only [i64_w, i32_w]; rw [c60b0]) | skip)
         by_cases c61 : a0_0 = 2
         ·rw [if_pos c61] at H
          have c61b0 := beq_iff_eq.mpr c61
          have c61b1 := bne_eq_false_iff_eq.mpr c61
          clear c61
          have H' := Aside0.mk H
          clear H
          go_wp2
          go_meet
          case rel => exact ⟨_, ((a0_0 == 2)), sqE, H', ⟨by have := HJ44.out; have := HJ52.out; first | omega | exact Nat.le_refl _⟩, ⟨by (with_reducible repeat (first | refine blk_drewN ?_ _ | refine blk_drew ?_ | refine blk_alloc ?_ _)); exact BK574.out⟩, ⟨sqH⟩⟩
         rw [if_neg c61] at H
         have c61b0 := beq_eq_false_iff_ne.mpr c61
         have c61b1 := bne_iff_ne.mpr c61
         have H' := Aside0.mk H
         clear H
         go_wp2
         go_meet
         case rel => exact ⟨_, ((a0_0 == 11)), sqE, H', ⟨by have := HJ44.out; have := HJ52.out; first | omega | exact Nat.le_refl _⟩, ⟨by (with_reducible repeat (first | refine blk_drewN ?_ _ | refine blk_drew ?_ | refine blk_alloc ?_ _)); exact BK574.out⟩, ⟨sqH⟩⟩
       case rest =>
        as_aux_lemma =>
         clear HC58
         try clear c3
         try clear c3b0
         try clear c3b1
         try clear c6
         try clear c6b0
         try clear c6b1
         obtain ⟨kq, x87_57, rfl, HA, HJ57, BK574, HB⟩ := hcut
         cases kq with
         | zero => exact absurd HA.out (by simp [endonymref6_Right.j2])
         | succ kj57 =>
          have H := HA.out
          clear HA
          simp only [endonymref6_Right.j2] at H
          by_cases c62 : x87_57 = true
          ·as_aux_lemma =>
            subst c62
            rw [if_pos rfl] at H
            by_cases c63 : x3_44 = true
            case neg =>
             replace c63 := Bool.eq_false_iff.mpr c63
             subst c63
             rw [if_neg (show ¬ (false = true) by decide)] at H
             obtain rfl := Option.some.inj H
             go_wp2
             go_ret
             exact ⟨sqE', sqH⟩
            subst c63
            rw [if_pos rfl] at H
            obtain ⟨t581, A64, H⟩ := sqO H
            try dsimp only at H
            by_cases c65 : t581 = true
            ·subst c65
             rw [if_pos rfl] at H
             obtain rfl := Option.some.inj H
             obtain ⟨z0, z1, z2, z3, z4, z5, z6, z7, y0, y1, y2, y3, y4, y5, y6, y7⟩ := box8 BK574.out
             go_wp2_with (first | (go_at_call 53; (with_reducible refine (endonymref6_bare.calls a0_0 a0_1 a0_2 a0_3 _ _ l0_4 a0_5 a0_6 a0_7 false false false false false true _ ?side1 ?side2 A64.out).mono ?_); (case side1 => exact sqC (Kd.C_below HR0_4.out HB.out)); (case side2 => exact HC0_4.out); rintro e w67 ⟨rfl, hb⟩; replace BK574 := Aside0.mk (sqM BK574.out hb); replace HB := Aside0.mk (below_step sqH hb); (try clear hb)))
             go_ret
             exact ⟨sqE', sqH⟩
            replace c65 := Bool.eq_false_iff.mpr c65
            subst c65
            rw [if_neg (show ¬ (false = true) by decide)] at H
            obtain rfl := Option.some.inj H
            obtain ⟨z0, z1, z2, z3, z4, z5, z6, z7, y0, y1, y2, y3, y4, y5, y6, y7⟩ := box8 BK574.out
            go_wp2_with (first | (go_at_call 53; (with_reducible refine (endonymref6_bare.calls a0_0 a0_1 a0_2 a0_3 _ _ l0_4 a0_5 a0_6 a0_7 false false false false false false _ ?side1 ?side2 A64.out).mono ?_); (case side1 => exact sqC (Kd.C_below HR0_4.out HB.out)); (case side2 => exact HC0_4.out); rintro e w69 ⟨rfl, hb⟩; replace BK574 := Aside0.mk (sqM BK574.out hb); replace HB := Aside0.mk (below_step sqH hb); (try clear hb)))
            go_ret
            exact ⟨sqE', sqH⟩
          replace c62 := Bool.eq_false_iff.mpr c62
          subst c62
          rw [if_neg (show ¬ (false = true) by decide)] at H
          by_cases c70 : a0_0 = 3
          ·as_aux_lemma =>
            rw [if_pos c70] at H
            have c70b0 := beq_iff_eq.mpr c70
            have c70b1 := bne_eq_false_iff_eq.mpr c70
            clear c70
            by_cases c71 : x3_44 = true
            case neg =>
             replace c71 := Bool.eq_false_iff.mpr c71
             subst c71
             rw [if_neg (show ¬ (false = true) by decide)] at H
             obtain rfl := Option.some.inj H
             go_wp2
             go_ret
             exact ⟨sqE', sqH⟩
            subst c71
            rw [if_pos rfl] at H
            obtain ⟨t582, A72, H⟩ := sqO H
            try dsimp only at H
            by_cases c73 : t582 = true
            case neg =>
             replace c73 := Bool.eq_false_iff.mpr c73
             subst c73
             rw [if_neg (show ¬ (false = true) by decide)] at H
             obtain rfl := Option.some.inj H
             obtain ⟨z0, z1, z2, z3, z4, z5, z6, z7, y0, y1, y2, y3, y4, y5, y6, y7⟩ := box8 BK574.out
             go_wp2_with (first | (go_at_call 53; (with_reducible refine (endonymref6_bare.calls a0_0 a0_1 a0_2 a0_3 _ _ l0_4 a0_5 a0_6 a0_7 false true false false false false _ ?side1 ?side2 A72.out).mono ?_); (case side1 => exact sqC (Kd.C_below HR0_4.out HB.out)); (case side2 => exact HC0_4.out); rintro e w83 ⟨rfl, hb⟩; replace BK574 := Aside0.mk (sqM BK574.out hb); replace HB := Aside0.mk (below_step sqH hb); (try clear hb)))
             go_ret
             exact ⟨sqE', sqH⟩
            subst c73
            rw [if_pos rfl] at H
            obtain ⟨t583, A74, H⟩ := sqO H
            try dsimp only at H
            by_cases c75 : t583 = true
            ·subst c75
             rw [if_pos rfl] at H
             obtain rfl := Option.some.inj H
             obtain ⟨z0, z1, z2, z3, z4, z5, z6, z7, y0, y1, y2, y3, y4, y5, y6, y7⟩ := box8 BK574.out
             go_wp2_with (first | (go_at_call 53; (with_reducible refine (endonymref6_bare.calls a0_0 a0_1 a0_2 a0_3 _ _ l0_4 a0_5 a0_6 a0_7 false true false false false true _ ?side1 ?side2 A72.out).mono ?_); (case side1 => exact sqC (Kd.C_below HR0_4.out HB.out)); (case side2 => exact HC0_4.out); rintro e w77 ⟨rfl, hb⟩; replace BK574 := Aside0.mk (sqM BK574.out hb); replace HB := Aside0.mk (below_step sqH hb); (try clear hb); obtain ⟨z0, z1, z2, z3, z4, z5, z6, z7, y0, y1, y2, y3, y4, y5, y6, y7⟩ := box8 BK574.out) | (go_at_call 57; (with_reducible refine (endonymref6_list.calls kj57 _ _ l0_4 1 24 true _ ?side1 ?side2 A74.out).mono ?_); (case side1 => exact sqC (Kd.C_below HR0_4.out HB.out)); (case side2 => exact HC0_4.out); rintro e w' ⟨rfl, ⟨nd, rfl⟩⟩))
             go_ret
             exact ⟨sqE', sqH⟩
            replace c75 := Bool.eq_false_iff.mpr c75
            subst c75
            rw [if_neg (show ¬ (false = true) by decide)] at H
            obtain rfl := Option.some.inj H
            obtain ⟨z0, z1, z2, z3, z4, z5, z6, z7, y0, y1, y2, y3, y4, y5, y6, y7⟩ := box8 BK574.out
            go_wp2_with (first | (go_at_call 53; (with_reducible refine (endonymref6_bare.calls a0_0 a0_1 a0_2 a0_3 _ _ l0_4 a0_5 a0_6 a0_7 false true false false false true _ ?side1 ?side2 A72.out).mono ?_); (case side1 => exact sqC (Kd.C_below HR0_4.out HB.out)); (case side2 => exact HC0_4.out); rintro e w80 ⟨rfl, hb⟩; replace BK574 := Aside0.mk (sqM BK574.out hb); replace HB := Aside0.mk (below_step sqH hb); (try clear hb); obtain ⟨z0, z1, z2, z3, z4, z5, z6, z7, y0, y1, y2, y3, y4, y5, y6, y7⟩ := box8 BK574.out) | (go_at_call 57; (with_reducible refine (endonymref6_list.calls kj57 _ _ l0_4 1 24 false _ ?side1 ?side2 A74.out).mono ?_); (case side1 => exact sqC (Kd.C_below HR0_4.out HB.out)); (case side2 => exact HC0_4.out); rintro e w' ⟨rfl, ⟨nd, rfl⟩⟩))
            go_ret
            exact ⟨sqE', sqH⟩
          rw [if_neg c70] at H
          have c70b0 := beq_eq_false_iff_ne.mpr c70
          have c70b1 := bne_iff_ne.mpr c70
          by_cases c84 : a0_0 = 4
          ·as_aux_lemma =>
            rw [if_pos c84] at H
            have c84b0 := beq_iff_eq.mpr c84
            have c84b1 := bne_eq_false_iff_eq.mpr c84
            clear c84
            have HC85 := Aside0.mk H
            clear H
            go_upto_region 18 with (fail)
            go_cut [3] (fun v3 wc => ∃ (kq : Nat) (x3_84 : Bool), v3 = .bool x3_84 ∧ Aside0 (endonymref6_Right.j3 kq x3_84 a0_0 a0_1 a0_2 a0_3 l0_4 a0_5 a0_6 a0_7 = some r) ∧ Aside0 (kq ≤ kj57) ∧ Aside0 (wc.heap[gb574]? = some (.cells #[.int .i64 a0_0, .int .i64 a0_1, .int .i64 a0_2, .int .i64 a0_3, (.slice A0_4 l0_4.length c0_4), .string a0_5, .string a0_6, .float .f64 a0_7] 25 (0, 0))) ∧ Aside0 (Below w.heap.size w wc))
            case first =>
             as_aux_lemma =>
              have H := HC85.out
              clear HC85
              by_cases c86 : x3_44 = true
              case neg =>
               replace c86 := Bool.eq_false_iff.mpr c86
               subst c86
               rw [if_neg (show ¬ (false = true) by decide)] at H
               have H' := Aside0.mk H
               clear H
               go_wp2
               go_meet
               case rel => exact ⟨_, (false), sqE, H', ⟨by have := HJ44.out; have := HJ52.out; have := HJ57.out; first | omega | exact Nat.le_refl _⟩, ⟨by (with_reducible repeat (first | refine blk_drewN ?_ _ | refine blk_drew ?_ | refine blk_alloc ?_ _)); exact BK574.out⟩, ⟨sqH⟩⟩
              subst c86
              rw [if_pos rfl] at H
              obtain ⟨t584, A87, H⟩ := sqO H
              try dsimp only at H
              by_cases c88 : t584 = true
              case neg =>
               as_aux_lemma =>
                replace c88 := Bool.eq_false_iff.mpr c88
                subst c88
                rw [if_neg (show ¬ (false = true) by decide)] at H
                have H' := Aside0.mk H
                clear H
                obtain ⟨z0, z1, z2, z3, z4, z5, z6, z7, y0, y1, y2, y3, y4, y5, y6, y7⟩ := box8 BK574.out
                go_wp2_with (first | (go_at_call 53; (with_reducible refine (endonymref6_bare.calls a0_0 a0_1 a0_2 a0_3 _ _ l0_4 a0_5 a0_6 a0_7 true true false false false false _ ?side1 ?side2 A87.out).mono ?_); (case side1 => exact sqC (Kd.C_below HR0_4.out HB.out)); (case side2 => exact HC0_4.out); rintro e w102 ⟨rfl, hb⟩; replace BK574 := Aside0.mk (sqM BK574.out hb); replace HB := Aside0.mk (below_step sqH hb); (try clear hb)))
                go_meet
                case rel => exact ⟨_, (false), sqE, H', ⟨by have := HJ44.out; have := HJ52.out; have := HJ57.out; first | omega | exact Nat.le_refl _⟩, ⟨by (with_reducible repeat (first | refine blk_drewN ?_ _ | refine blk_drew ?_ | refine blk_alloc ?_ _)); exact BK574.out⟩, ⟨sqH⟩⟩
              subst c88
              rw [if_pos rfl] at H
              by_cases c89 : a0_3 ≥ 1
              case neg =>
               as_aux_lemma =>
                rw [if_neg c89] at H
                have c89b0 := decide_eq_false c89
                clear c89
                (first | rw [c89b0] | (simp only [i64_w, i32_w]; rw [c89b0]) | skip)
                have H' := Aside0.mk H
                clear H
                obtain ⟨z0, z1, z2, z3, z4, z5, z6, z7, y0, y1, y2, y3, y4, y5, y6, y7⟩ := box8 BK574.out
                go_wp2_with (first | (go_at_call 53; (with_reducible refine (endonymref6_bare.calls a0_0 a0_1 a0_2 a0_3 _ _ l0_4 a0_5 a0_6 a0_7 true true false false false true _ ?side1 ?side2 A87.out).mono ?_); (case side1 => exact sqC (Kd.C_below HR0_4.out HB.out)); (case side2 => exact HC0_4.out); rintro e w99 ⟨rfl, hb⟩; replace BK574 := Aside0.mk (sqM BK574.out hb); replace HB := Aside0.mk (below_step sqH hb); (try clear hb); obtain ⟨z0, z1, z2, z3, z4, z5, z6, z7, y0, y1, y2, y3, y4, y5, y6, y7⟩ := box8 BK574.out))
                go_meet
                case rel => exact ⟨_, (false), sqE, H', ⟨by have := HJ44.out; have := HJ52.out; have := HJ57.out; first | omega | exact Nat.le_refl _⟩, ⟨by (with_reducible repeat (first | refine blk_drewN ?_ _ | refine blk_drew ?_ | refine blk_alloc ?_ _)); exact BK574.out⟩, ⟨sqH⟩⟩
              rw [if_pos c89] at H
              have c89b0 := decide_eq_true c89
              clear c89
              (first | rw [c89b0] | (simp only [i64_w, i32_w]; rw [c89b0]) | skip)
              by_cases c90 : a0_3 ≤ 64
              case neg =>
               as_aux_lemma =>
                rw [if_neg c90] at H
                have c90b0 := decide_eq_false c90
                clear c90
                have H' := Aside0.mk H
                clear H
                obtain ⟨z0, z1, z2, z3, z4, z5, z6, z7, y0, y1, y2, y3, y4, y5, y6, y7⟩ := box8 BK574.out
                go_wp2_with (first | (go_at_call 53; (with_reducible refine (endonymref6_bare.calls a0_0 a0_1 a0_2 a0_3 _ _ l0_4 a0_5 a0_6 a0_7 true true false false false true _ ?side1 ?side2 A87.out).mono ?_); (case side1 => exact sqC (Kd.C_below HR0_4.out HB.out)); (case side2 => exact HC0_4.out); rintro e w96 ⟨rfl, hb⟩; replace BK574 := Aside0.mk (sqM BK574.out hb); replace HB := Aside0.mk (below_step sqH hb); (try clear hb); obtain ⟨z0, z1, z2, z3, z4, z5, z6, z7, y0, y1, y2, y3, y4, y5, y6, y7⟩ := box8 BK574.out))
                go_meet
                case rel => exact ⟨_, (false), sqE, H', ⟨by have := HJ44.out; have := HJ52.out; have := HJ57.out; first | omega | exact Nat.le_refl _⟩, ⟨by (with_reducible repeat (first | refine blk_drewN ?_ _ | refine blk_drew ?_ | refine blk_alloc ?_ _)); exact BK574.out⟩, ⟨sqH⟩⟩
              rw [if_pos c90] at H
              have c90b0 := decide_eq_true c90
              clear c90
              obtain ⟨t585, A91, H⟩ := sqO H
              try dsimp only at H
              have H' := Aside0.mk H
              clear H
              obtain ⟨z0, z1, z2, z3, z4, z5, z6, z7, y0, y1, y2, y3, y4, y5, y6, y7⟩ := box8 BK574.out
              go_wp2_with (first | (go_at_call 53; (with_reducible refine (endonymref6_bare.calls a0_0 a0_1 a0_2 a0_3 _ _ l0_4 a0_5 a0_6 a0_7 true true false false false true _ ?side1 ?side2 A87.out).mono ?_); (case side1 => exact sqC (Kd.C_below HR0_4.out HB.out)); (case side2 => exact HC0_4.out); rintro e w93 ⟨rfl, hb⟩; replace BK574 := Aside0.mk (sqM BK574.out hb); replace HB := Aside0.mk (below_step sqH hb); (try clear hb); obtain ⟨z0, z1, z2, z3, z4, z5, z6, z7, y0, y1, y2, y3, y4, y5, y6, y7⟩ := box8 BK574.out) | (go_at_call 57; (with_reducible refine (endonymref6_list.calls kj57 _ _ l0_4 1 1 t585 _ ?side1 ?side2 A91.out).mono ?_); (case side1 => exact sqC (Kd.C_below HR0_4.out HB.out)); (case side2 => exact HC0_4.out); rintro e w' ⟨rfl, ⟨nd, rfl⟩⟩))
              go_meet
              case rel => exact ⟨_, (t585), sqE, H', ⟨by have := HJ44.out; have := HJ52.out; have := HJ57.out; first | omega | exact Nat.le_refl _⟩, ⟨by (with_reducible repeat (first | refine blk_drewN ?_ _ | refine blk_drew ?_ | refine blk_alloc ?_ _)); exact BK574.out⟩, ⟨sqH⟩⟩
            case rest =>
             as_aux_lemma =>
              clear HC85
              try clear c6
              try clear c62
              try clear c70
              try clear c70b0
              try clear c70b1
              try clear c84
              try clear c84b0
              try clear c84b1
              obtain ⟨kq, x3_84, rfl, HA, HJ84, BK574, HB⟩ := hcut
              cases kq with
              | zero => exact absurd HA.out (by simp [endonymref6_Right.j3])
              | succ kj84 =>
               have H := HA.out
               clear HA
               simp only [endonymref6_Right.j3] at H
               by_cases c103 : x3_84 = true
               case neg =>
                replace c103 := Bool.eq_false_iff.mpr c103
                subst c103
                rw [if_neg (show ¬ (false = true) by decide)] at H
                obtain rfl := Option.some.inj H
                go_wp2
                go_ret
                exact ⟨sqE', sqH⟩
               subst c103
               rw [if_pos rfl] at H
               by_cases c104 : 0 < (l0_4.length : Int)
               case neg => rw [if_neg c104] at H; exact absurd H (by simp)
               rw [if_pos c104] at H
               have c104b0 := decide_eq_true c104
               have c104b1 : decide (0 < l0_4.length) = true := decide_eq_true (by omega)
               clear c104
               by_cases c105 : (wrap64 ((wrap64 ((wrap64 (rd l0_4 0)) + a0_2)) - a0_1)) ≤ 1114111
               case neg =>
                as_aux_lemma =>
                 rw [if_neg c105] at H
                 have c105b0 := decide_eq_false c105
                 clear c105
                 obtain rfl := Option.some.inj H
                 obtain ⟨z0, z1, z2, z3, z4, z5, z6, z7, y0, y1, y2, y3, y4, y5, y6, y7⟩ := box8 BK574.out
                 have p586 : 0 ≤ (0 : Int) := (by omega)
                 have q586 : 0 < (l0_4.length : Int) := sqD
                 obtain ⟨ad586, e586, hx586_0⟩ := Kd.at_int HR0_4.out 0 p586 q586
                 cases e586
                 have qi586 : (0 < l0_4.length) = True := eq_true (by omega)
                 (try rw [show ((0 : Int)).toNat = 0 from rfl] at hx586_0)
                 (try rw [Addr.add_zero'] at hx586_0)
                 replace hx586_0 := (HB.out.cell (World.block_lt_of_cell? w _ hx586_0)).trans hx586_0
                 replace p586 := eq_true p586
                 replace q586 := eq_true q586
                 go_wp2
                 go_ret
                 exact ⟨sqE', sqH⟩
               rw [if_pos c105] at H
               have c105b0 := decide_eq_true c105
               clear c105
               by_cases c106 : (wrap64 ((wrap64 ((wrap64 (rd l0_4 0)) + a0_2)) - a0_1)) < 55296
               ·as_aux_lemma =>
                 rw [if_pos c106] at H
                 have c106b0 := decide_eq_true c106
                 clear c106
                 obtain rfl := Option.some.inj H
                 obtain ⟨z0, z1, z2, z3, z4, z5, z6, z7, y0, y1, y2, y3, y4, y5, y6, y7⟩ := box8 BK574.out
                 have p586 : 0 ≤ (0 : Int) := (by omega)
                 have q586 : 0 < (l0_4.length : Int) := sqD
                 obtain ⟨ad586, e586, hx586_0⟩ := Kd.at_int HR0_4.out 0 p586 q586
                 cases e586
                 have qi586 : (0 < l0_4.length) = True := eq_true (by omega)
                 (try rw [show ((0 : Int)).toNat = 0 from rfl] at hx586_0)
                 (try rw [Addr.add_zero'] at hx586_0)
                 replace hx586_0 := (HB.out.cell (World.block_lt_of_cell? w _ hx586_0)).trans hx586_0
                 replace p586 := eq_true p586
                 replace q586 := eq_true q586
                 go_wp2
                 go_ret
                 exact ⟨sqE', sqH⟩
               rw [if_neg c106] at H
               have c106b0 := decide_eq_false c106
               clear c106
               by_cases c108 : ((wrap64 (rd l0_4 0)) > 57343)
               ·as_aux_lemma =>
                 rw [if_pos c108] at H
                 have c108b0 := decide_eq_true c108
                 clear c108
                 obtain rfl := Option.some.inj H
                 obtain ⟨z0, z1, z2, z3, z4, z5, z6, z7, y0, y1, y2, y3, y4, y5, y6, y7⟩ := box8 BK574.out
                 have p586 : 0 ≤ (0 : Int) := (by omega)
                 have q586 : 0 < (l0_4.length : Int) := sqD
                 obtain ⟨ad586, e586, hx586_0⟩ := Kd.at_int HR0_4.out 0 p586 q586
                 cases e586
                 have qi586 : (0 < l0_4.length) = True := eq_true (by omega)
                 (try rw [show ((0 : Int)).toNat = 0 from rfl] at hx586_0)
                 (try rw [Addr.add_zero'] at hx586_0)
                 replace hx586_0 := (HB.out.cell (World.block_lt_of_cell? w _ hx586_0)).trans hx586_0
                 replace p586 := eq_true p586
                 replace q586 := eq_true q586
                 go_wp2
                 go_ret
                 exact ⟨sqE', sqH⟩
               rw [if_neg c108] at H
               have c108b0 := decide_eq_false c108
               clear c108
               obtain rfl := Option.some.inj H
               obtain ⟨z0, z1, z2, z3, z4, z5, z6, z7, y0, y1, y2, y3, y4, y5, y6, y7⟩ := box8 BK574.out
               have p586 : 0 ≤ (0 : Int) := (by omega)
               have q586 : 0 < (l0_4.length : Int) := sqD
               obtain ⟨ad586, e586, hx586_0⟩ := Kd.at_int HR0_4.out 0 p586 q586
               cases e586
               have qi586 : (0 < l0_4.length) = True := eq_true (by omega)
               (try rw [show ((0 : Int)).toNat = 0 from rfl] at hx586_0)
               (try rw [Addr.add_zero'] at hx586_0)
               replace hx586_0 := (HB.out.cell (World.block_lt_of_cell? w _ hx586_0)).trans hx586_0
               replace p586 := eq_true p586
               replace q586 := eq_true q586
               go_wp2
               go_ret
               exact ⟨sqE', sqH⟩
          rw [if_neg c84] at H
          have c84b0 := beq_eq_false_iff_ne.mpr c84
          have c84b1 := bne_iff_ne.mpr c84
          by_cases c112 : a0_0 = 5
          ·as_aux_lemma =>
            rw [if_pos c112] at H
            have c112b0 := beq_iff_eq.mpr c112
            have c112b1 := bne_eq_false_iff_eq.mpr c112
            clear c112
            by_cases c113 : x3_44 = true
            case neg =>
             replace c113 := Bool.eq_false_iff.mpr c113
             subst c113
             rw [if_neg (show ¬ (false = true) by decide)] at H
             obtain rfl := Option.some.inj H
             go_wp2
             go_ret
             exact ⟨sqE', sqH⟩
            subst c113
            rw [if_pos rfl] at H
            by_cases c114 : x4_52 = true
            case neg =>
             replace c114 := Bool.eq_false_iff.mpr c114
             subst c114
             rw [if_neg (show ¬ (false = true) by decide)] at H
             obtain rfl := Option.some.inj H
             go_wp2
             go_ret
             exact ⟨sqE', sqH⟩
            subst c114
            rw [if_pos rfl] at H
            obtain ⟨t587, A115, H⟩ := sqO H
            try dsimp only at H
            by_cases c116 : t587 = true
            case neg =>
             replace c116 := Bool.eq_false_iff.mpr c116
             subst c116
             rw [if_neg (show ¬ (false = true) by decide)] at H
             obtain rfl := Option.some.inj H
             obtain ⟨z0, z1, z2, z3, z4, z5, z6, z7, y0, y1, y2, y3, y4, y5, y6, y7⟩ := box8 BK574.out
             go_wp2_with (first | (go_at_call 53; (with_reducible refine (endonymref6_bare.calls a0_0 a0_1 a0_2 a0_3 _ _ l0_4 a0_5 a0_6 a0_7 false true false false false false _ ?side1 ?side2 A115.out).mono ?_); (case side1 => exact sqC (Kd.C_below HR0_4.out HB.out)); (case side2 => exact HC0_4.out); rintro e w126 ⟨rfl, hb⟩; replace BK574 := Aside0.mk (sqM BK574.out hb); replace HB := Aside0.mk (below_step sqH hb); (try clear hb)))
             go_ret
             exact ⟨sqE', sqH⟩
            subst c116
            rw [if_pos rfl] at H
            obtain ⟨t588, A117, H⟩ := sqO H
            try dsimp only at H
            by_cases c118 : t588 = true
            ·subst c118
             rw [if_pos rfl] at H
             obtain rfl := Option.some.inj H
             obtain ⟨z0, z1, z2, z3, z4, z5, z6, z7, y0, y1, y2, y3, y4, y5, y6, y7⟩ := box8 BK574.out
             go_wp2_with (first | (go_at_call 53; (with_reducible refine (endonymref6_bare.calls a0_0 a0_1 a0_2 a0_3 _ _ l0_4 a0_5 a0_6 a0_7 false true false false false true _ ?side1 ?side2 A115.out).mono ?_); (case side1 => exact sqC (Kd.C_below HR0_4.out HB.out)); (case side2 => exact HC0_4.out); rintro e w120 ⟨rfl, hb⟩; replace BK574 := Aside0.mk (sqM BK574.out hb); replace HB := Aside0.mk (below_step sqH hb); (try clear hb); obtain ⟨z0, z1, z2, z3, z4, z5, z6, z7, y0, y1, y2, y3, y4, y5, y6, y7⟩ := box8 BK574.out) | (go_at_call 57; (with_reducible refine (endonymref6_list.calls kj57 _ _ l0_4 0 24 true _ ?side1 ?side2 A117.out).mono ?_); (case side1 => exact sqC (Kd.C_below HR0_4.out HB.out)); (case side2 => exact HC0_4.out); rintro e w' ⟨rfl, ⟨nd, rfl⟩⟩))
             go_ret
             exact ⟨sqE', sqH⟩
            replace c118 := Bool.eq_false_iff.mpr c118
            subst c118
            rw [if_neg (show ¬ (false = true) by decide)] at H
            obtain rfl := Option.some.inj H
            obtain ⟨z0, z1, z2, z3, z4, z5, z6, z7, y0, y1, y2, y3, y4, y5, y6, y7⟩ := box8 BK574.out
            go_wp2_with (first | (go_at_call 53; (with_reducible refine (endonymref6_bare.calls a0_0 a0_1 a0_2 a0_3 _ _ l0_4 a0_5 a0_6 a0_7 false true false false false true _ ?side1 ?side2 A115.out).mono ?_); (case side1 => exact sqC (Kd.C_below HR0_4.out HB.out)); (case side2 => exact HC0_4.out); rintro e w123 ⟨rfl, hb⟩; replace BK574 := Aside0.mk (sqM BK574.out hb); replace HB := Aside0.mk (below_step sqH hb); (try clear hb); obtain ⟨z0, z1, z2, z3, z4, z5, z6, z7, y0, y1, y2, y3, y4, y5, y6, y7⟩ := box8 BK574.out) | (go_at_call 57; (with_reducible refine (endonymref6_list.calls kj57 _ _ l0_4 0 24 false _ ?side1 ?side2 A117.out).mono ?_); (case side1 => exact sqC (Kd.C_below HR0_4.out HB.out)); (case side2 => exact HC0_4.out); rintro e w' ⟨rfl, ⟨nd, rfl⟩⟩))
            go_ret
            exact ⟨sqE', sqH⟩
          rw [if_neg c112] at H
          have c112b0 := beq_eq_false_iff_ne.mpr c112
          have c112b1 := bne_iff_ne.mpr c112
          by_cases c127 : a0_0 = 13
          ·as_aux_lemma =>
            rw [if_pos c127] at H
            have c127b0 := beq_iff_eq.mpr c127
            have c127b1 := bne_eq_false_iff_eq.mpr c127
            clear c127
            by_cases c128 : x3_44 = true
            case neg =>
             replace c128 := Bool.eq_false_iff.mpr c128
             subst c128
             rw [if_neg (show ¬ (false = true) by decide)] at H
             obtain rfl := Option.some.inj H
             go_wp2
             go_ret
             exact ⟨sqE', sqH⟩
            subst c128
            rw [if_pos rfl] at H
            by_cases c129 : x4_52 = true
            case neg =>
             replace c129 := Bool.eq_false_iff.mpr c129
             subst c129
             rw [if_neg (show ¬ (false = true) by decide)] at H
             obtain rfl := Option.some.inj H
             go_wp2
             go_ret
             exact ⟨sqE', sqH⟩
            subst c129
            rw [if_pos rfl] at H
            obtain ⟨t589, A130, H⟩ := sqO H
            try dsimp only at H
            by_cases c131 : t589 = true
            case neg =>
             replace c131 := Bool.eq_false_iff.mpr c131
             subst c131
             rw [if_neg (show ¬ (false = true) by decide)] at H
             obtain rfl := Option.some.inj H
             obtain ⟨z0, z1, z2, z3, z4, z5, z6, z7, y0, y1, y2, y3, y4, y5, y6, y7⟩ := box8 BK574.out
             go_wp2_with (first | (go_at_call 53; (with_reducible refine (endonymref6_bare.calls a0_0 a0_1 a0_2 a0_3 _ _ l0_4 a0_5 a0_6 a0_7 false true false false false false _ ?side1 ?side2 A130.out).mono ?_); (case side1 => exact sqC (Kd.C_below HR0_4.out HB.out)); (case side2 => exact HC0_4.out); rintro e w141 ⟨rfl, hb⟩; replace BK574 := Aside0.mk (sqM BK574.out hb); replace HB := Aside0.mk (below_step sqH hb); (try clear hb)))
             go_ret
             exact ⟨sqE', sqH⟩
            subst c131
            rw [if_pos rfl] at H
            obtain ⟨t590, A132, H⟩ := sqO H
            try dsimp only at H
            by_cases c133 : t590 = true
            ·subst c133
             rw [if_pos rfl] at H
             obtain rfl := Option.some.inj H
             obtain ⟨z0, z1, z2, z3, z4, z5, z6, z7, y0, y1, y2, y3, y4, y5, y6, y7⟩ := box8 BK574.out
             go_wp2_with (first | (go_at_call 53; (with_reducible refine (endonymref6_bare.calls a0_0 a0_1 a0_2 a0_3 _ _ l0_4 a0_5 a0_6 a0_7 false true false false false true _ ?side1 ?side2 A130.out).mono ?_); (case side1 => exact sqC (Kd.C_below HR0_4.out HB.out)); (case side2 => exact HC0_4.out); rintro e w135 ⟨rfl, hb⟩; replace BK574 := Aside0.mk (sqM BK574.out hb); replace HB := Aside0.mk (below_step sqH hb); (try clear hb); obtain ⟨z0, z1, z2, z3, z4, z5, z6, z7, y0, y1, y2, y3, y4, y5, y6, y7⟩ := box8 BK574.out) | (go_at_call 57; (with_reducible refine (endonymref6_list.calls kj57 _ _ l0_4 1 24 true _ ?side1 ?side2 A132.out).mono ?_); (case side1 => exact sqC (Kd.C_below HR0_4.out HB.out)); (case side2 => exact HC0_4.out); rintro e w' ⟨rfl, ⟨nd, rfl⟩⟩))
             go_ret
             exact ⟨sqE', sqH⟩
            replace c133 := Bool.eq_false_iff.mpr c133
            subst c133
            rw [if_neg (show ¬ (false = true) by decide)] at H
            obtain rfl := Option.some.inj H
            obtain ⟨z0, z1, z2, z3, z4, z5, z6, z7, y0, y1, y2, y3, y4, y5, y6, y7⟩ := box8 BK574.out
            go_wp2_with (first | (go_at_call 53; (with_reducible refine (endonymref6_bare.calls a0_0 a0_1 a0_2 a0_3 _ _ l0_4 a0_5 a0_6 a0_7 false true false false false true _ ?side1 ?side2 A130.out).mono ?_); (case side1 => exact sqC (Kd.C_below HR0_4.out HB.out)); (case side2 => exact HC0_4.out); rintro e w138 ⟨rfl, hb⟩; replace BK574 := Aside0.mk (sqM BK574.out hb); replace HB := Aside0.mk (below_step sqH hb); (try clear hb); obtain ⟨z0, z1, z2, z3, z4, z5, z6, z7, y0, y1, y2, y3, y4, y5, y6, y7⟩ := box8 BK574.out) | (go_at_call 57; (with_reducible refine (endonymref6_list.calls kj57 _ _ l0_4 1 24 false _ ?side1 ?side2 A132.out).mono ?_); (case side1 => exact sqC (Kd.C_below HR0_4.out HB.out)); (case side2 => exact HC0_4.out); rintro e w' ⟨rfl, ⟨nd, rfl⟩⟩))
            go_ret
            exact ⟨sqE', sqH⟩
          rw [if_neg c127] at H
          have c127b0 := beq_eq_false_iff_ne.mpr c127
          have c127b1 := bne_iff_ne.mpr c127
          by_cases c142 : a0_0 = 6
          ·as_aux_lemma =>
            rw [if_pos c142] at H
            have c142b0 := beq_iff_eq.mpr c142
            have c142b1 := bne_eq_false_iff_eq.mpr c142
            clear c142
            by_cases c143 : x3_44 = true
            case neg =>
             replace c143 := Bool.eq_false_iff.mpr c143
             subst c143
             rw [if_neg (show ¬ (false = true) by decide)] at H
             obtain rfl := Option.some.inj H
             go_wp2
             go_ret
             exact ⟨sqE', sqH⟩
            subst c143
            rw [if_pos rfl] at H
            obtain ⟨t591, A144, H⟩ := sqO H
            try dsimp only at H
            by_cases c145 : t591 = true
            case neg =>
             replace c145 := Bool.eq_false_iff.mpr c145
             subst c145
             rw [if_neg (show ¬ (false = true) by decide)] at H
             obtain rfl := Option.some.inj H
             obtain ⟨z0, z1, z2, z3, z4, z5, z6, z7, y0, y1, y2, y3, y4, y5, y6, y7⟩ := box8 BK574.out
             go_wp2_with (first | (go_at_call 53; (with_reducible refine (endonymref6_bare.calls a0_0 a0_1 a0_2 a0_3 _ _ l0_4 a0_5 a0_6 a0_7 true false false false false false _ ?side1 ?side2 A144.out).mono ?_); (case side1 => exact sqC (Kd.C_below HR0_4.out HB.out)); (case side2 => exact HC0_4.out); rintro e w158 ⟨rfl, hb⟩; replace BK574 := Aside0.mk (sqM BK574.out hb); replace HB := Aside0.mk (below_step sqH hb); (try clear hb)))
             go_ret
             exact ⟨sqE', sqH⟩
            subst c145
            rw [if_pos rfl] at H
            by_cases c146 : a0_3 ≥ 1
            case neg =>
             rw [if_neg c146] at H
             have c146b0 := decide_eq_false c146
             clear c146
             obtain rfl := Option.some.inj H
             obtain ⟨z0, z1, z2, z3, z4, z5, z6, z7, y0, y1, y2, y3, y4, y5, y6, y7⟩ := box8 BK574.out
             go_wp2_with (first | (go_at_call 53; (with_reducible refine (endonymref6_bare.calls a0_0 a0_1 a0_2 a0_3 _ _ l0_4 a0_5 a0_6 a0_7 true false false false false true _ ?side1 ?side2 A144.out).mono ?_); (case side1 => exact sqC (Kd.C_below HR0_4.out HB.out)); (case side2 => exact HC0_4.out); rintro e w155 ⟨rfl, hb⟩; replace BK574 := Aside0.mk (sqM BK574.out hb); replace HB := Aside0.mk (below_step sqH hb); (try clear hb); obtain ⟨z0, z1, z2, z3, z4, z5, z6, z7, y0, y1, y2, y3, y4, y5, y6, y7⟩ := box8 BK574.out))
             go_ret
             exact ⟨sqE', sqH⟩
            rw [if_pos c146] at H
            have c146b0 := decide_eq_true c146
            clear c146
            by_cases c147 : a0_3 ≤ 254
            ·rw [if_pos c147] at H
             have c147b0 := decide_eq_true c147
             clear c147
             obtain rfl := Option.some.inj H
             obtain ⟨z0, z1, z2, z3, z4, z5, z6, z7, y0, y1, y2, y3, y4, y5, y6, y7⟩ := box8 BK574.out
             go_wp2_with (first | (go_at_call 53; (with_reducible refine (endonymref6_bare.calls a0_0 a0_1 a0_2 a0_3 _ _ l0_4 a0_5 a0_6 a0_7 true false false false false true _ ?side1 ?side2 A144.out).mono ?_); (case side1 => exact sqC (Kd.C_below HR0_4.out HB.out)); (case side2 => exact HC0_4.out); rintro e w149 ⟨rfl, hb⟩; replace BK574 := Aside0.mk (sqM BK574.out hb); replace HB := Aside0.mk (below_step sqH hb); (try clear hb); obtain ⟨z0, z1, z2, z3, z4, z5, z6, z7, y0, y1, y2, y3, y4, y5, y6, y7⟩ := box8 BK574.out))
             go_ret
             exact ⟨sqE', sqH⟩
            rw [if_neg c147] at H
            have c147b0 := decide_eq_false c147
            clear c147
            obtain rfl := Option.some.inj H
            obtain ⟨z0, z1, z2, z3, z4, z5, z6, z7, y0, y1, y2, y3, y4, y5, y6, y7⟩ := box8 BK574.out
            go_wp2_with (first | (go_at_call 53; (with_reducible refine (endonymref6_bare.calls a0_0 a0_1 a0_2 a0_3 _ _ l0_4 a0_5 a0_6 a0_7 true false false false false true _ ?side1 ?side2 A144.out).mono ?_); (case side1 => exact sqC (Kd.C_below HR0_4.out HB.out)); (case side2 => exact HC0_4.out); rintro e w152 ⟨rfl, hb⟩; replace BK574 := Aside0.mk (sqM BK574.out hb); replace HB := Aside0.mk (below_step sqH hb); (try clear hb); obtain ⟨z0, z1, z2, z3, z4, z5, z6, z7, y0, y1, y2, y3, y4, y5, y6, y7⟩ := box8 BK574.out))
            go_ret
            exact ⟨sqE', sqH⟩
          rw [if_neg c142] at H
          have c142b0 := beq_eq_false_iff_ne.mpr c142
          have c142b1 := bne_iff_ne.mpr c142
          by_cases c159 : a0_0 = 7
          ·as_aux_lemma =>
            rw [if_pos c159] at H
            have c159b0 := beq_iff_eq.mpr c159
            have c159b1 := bne_eq_false_iff_eq.mpr c159
            clear c159
            by_cases c160 : x3_44 = true
            case neg =>
             replace c160 := Bool.eq_false_iff.mpr c160
             subst c160
             rw [if_neg (show ¬ (false = true) by decide)] at H
             obtain rfl := Option.some.inj H
             go_wp2
             go_ret
             exact ⟨sqE', sqH⟩
            subst c160
            rw [if_pos rfl] at H
            by_cases c161 : x4_52 = true
            case neg =>
             replace c161 := Bool.eq_false_iff.mpr c161
             subst c161
             rw [if_neg (show ¬ (false = true) by decide)] at H
             obtain rfl := Option.some.inj H
             go_wp2
             go_ret
             exact ⟨sqE', sqH⟩
            subst c161
            rw [if_pos rfl] at H
            obtain ⟨t592, A162, H⟩ := sqO H
            try dsimp only at H
            by_cases c163 : t592 = true
            case neg =>
             replace c163 := Bool.eq_false_iff.mpr c163
             subst c163
             rw [if_neg (show ¬ (false = true) by decide)] at H
             obtain rfl := Option.some.inj H
             obtain ⟨z0, z1, z2, z3, z4, z5, z6, z7, y0, y1, y2, y3, y4, y5, y6, y7⟩ := box8 BK574.out
             go_wp2_with (first | (go_at_call 53; (with_reducible refine (endonymref6_bare.calls a0_0 a0_1 a0_2 a0_3 _ _ l0_4 a0_5 a0_6 a0_7 false true false false false false _ ?side1 ?side2 A162.out).mono ?_); (case side1 => exact sqC (Kd.C_below HR0_4.out HB.out)); (case side2 => exact HC0_4.out); rintro e w173 ⟨rfl, hb⟩; replace BK574 := Aside0.mk (sqM BK574.out hb); replace HB := Aside0.mk (below_step sqH hb); (try clear hb)))
             go_ret
             exact ⟨sqE', sqH⟩
            subst c163
            rw [if_pos rfl] at H
            obtain ⟨t593, A164, H⟩ := sqO H
            try dsimp only at H
            by_cases c165 : t593 = true
            ·subst c165
             rw [if_pos rfl] at H
             obtain rfl := Option.some.inj H
             obtain ⟨z0, z1, z2, z3, z4, z5, z6, z7, y0, y1, y2, y3, y4, y5, y6, y7⟩ := box8 BK574.out
             go_wp2_with (first | (go_at_call 53; (with_reducible refine (endonymref6_bare.calls a0_0 a0_1 a0_2 a0_3 _ _ l0_4 a0_5 a0_6 a0_7 false true false false false true _ ?side1 ?side2 A162.out).mono ?_); (case side1 => exact sqC (Kd.C_below HR0_4.out HB.out)); (case side2 => exact HC0_4.out); rintro e w167 ⟨rfl, hb⟩; replace BK574 := Aside0.mk (sqM BK574.out hb); replace HB := Aside0.mk (below_step sqH hb); (try clear hb); obtain ⟨z0, z1, z2, z3, z4, z5, z6, z7, y0, y1, y2, y3, y4, y5, y6, y7⟩ := box8 BK574.out) | (go_at_call 57; (with_reducible refine (endonymref6_list.calls kj57 _ _ l0_4 2 2 true _ ?side1 ?side2 A164.out).mono ?_); (case side1 => exact sqC (Kd.C_below HR0_4.out HB.out)); (case side2 => exact HC0_4.out); rintro e w' ⟨rfl, ⟨nd, rfl⟩⟩))
             go_ret
             exact ⟨sqE', sqH⟩
            replace c165 := Bool.eq_false_iff.mpr c165
            subst c165
            rw [if_neg (show ¬ (false = true) by decide)] at H
            obtain rfl := Option.some.inj H
            obtain ⟨z0, z1, z2, z3, z4, z5, z6, z7, y0, y1, y2, y3, y4, y5, y6, y7⟩ := box8 BK574.out
            go_wp2_with (first | (go_at_call 53; (with_reducible refine (endonymref6_bare.calls a0_0 a0_1 a0_2 a0_3 _ _ l0_4 a0_5 a0_6 a0_7 false true false false false true _ ?side1 ?side2 A162.out).mono ?_); (case side1 => exact sqC (Kd.C_below HR0_4.out HB.out)); (case side2 => exact HC0_4.out); rintro e w170 ⟨rfl, hb⟩; replace BK574 := Aside0.mk (sqM BK574.out hb); replace HB := Aside0.mk (below_step sqH hb); (try clear hb); obtain ⟨z0, z1, z2, z3, z4, z5, z6, z7, y0, y1, y2, y3, y4, y5, y6, y7⟩ := box8 BK574.out) | (go_at_call 57; (with_reducible refine (endonymref6_list.calls kj57 _ _ l0_4 2 2 false _ ?side1 ?side2 A164.out).mono ?_); (case side1 => exact sqC (Kd.C_below HR0_4.out HB.out)); (case side2 => exact HC0_4.out); rintro e w' ⟨rfl, ⟨nd, rfl⟩⟩))
            go_ret
            exact ⟨sqE', sqH⟩
          rw [if_neg c159] at H
          have c159b0 := beq_eq_false_iff_ne.mpr c159
          have c159b1 := bne_iff_ne.mpr c159
          by_cases c174 : a0_0 = 8
          ·as_aux_lemma =>
            rw [if_pos c174] at H
            have c174b0 := beq_iff_eq.mpr c174
            have c174b1 := bne_eq_false_iff_eq.mpr c174
            clear c174
            by_cases c175 : x3_44 = true
            case neg =>
             replace c175 := Bool.eq_false_iff.mpr c175
             subst c175
             rw [if_neg (show ¬ (false = true) by decide)] at H
             obtain rfl := Option.some.inj H
             go_wp2
             go_ret
             exact ⟨sqE', sqH⟩
            subst c175
            rw [if_pos rfl] at H
            by_cases c176 : x4_52 = true
            case neg =>
             replace c176 := Bool.eq_false_iff.mpr c176
             subst c176
             rw [if_neg (show ¬ (false = true) by decide)] at H
             obtain rfl := Option.some.inj H
             go_wp2
             go_ret
             exact ⟨sqE', sqH⟩
            subst c176
            rw [if_pos rfl] at H
            obtain ⟨t594, A177, H⟩ := sqO H
            try dsimp only at H
            by_cases c178 : t594 = true
            case neg =>
             replace c178 := Bool.eq_false_iff.mpr c178
             subst c178
             rw [if_neg (show ¬ (false = true) by decide)] at H
             obtain rfl := Option.some.inj H
             obtain ⟨z0, z1, z2, z3, z4, z5, z6, z7, y0, y1, y2, y3, y4, y5, y6, y7⟩ := box8 BK574.out
             go_wp2_with (first | (go_at_call 53; (with_reducible refine (endonymref6_bare.calls a0_0 a0_1 a0_2 a0_3 _ _ l0_4 a0_5 a0_6 a0_7 false true false false false false _ ?side1 ?side2 A177.out).mono ?_); (case side1 => exact sqC (Kd.C_below HR0_4.out HB.out)); (case side2 => exact HC0_4.out); rintro e w188 ⟨rfl, hb⟩; replace BK574 := Aside0.mk (sqM BK574.out hb); replace HB := Aside0.mk (below_step sqH hb); (try clear hb)))
             go_ret
             exact ⟨sqE', sqH⟩
            subst c178
            rw [if_pos rfl] at H
            obtain ⟨t595, A179, H⟩ := sqO H
            try dsimp only at H
            by_cases c180 : t595 = true
            ·subst c180
             rw [if_pos rfl] at H
             obtain rfl := Option.some.inj H
             obtain ⟨z0, z1, z2, z3, z4, z5, z6, z7, y0, y1, y2, y3, y4, y5, y6, y7⟩ := box8 BK574.out
             go_wp2_with (first | (go_at_call 53; (with_reducible refine (endonymref6_bare.calls a0_0 a0_1 a0_2 a0_3 _ _ l0_4 a0_5 a0_6 a0_7 false true false false false true _ ?side1 ?side2 A177.out).mono ?_); (case side1 => exact sqC (Kd.C_below HR0_4.out HB.out)); (case side2 => exact HC0_4.out); rintro e w182 ⟨rfl, hb⟩; replace BK574 := Aside0.mk (sqM BK574.out hb); replace HB := Aside0.mk (below_step sqH hb); (try clear hb); obtain ⟨z0, z1, z2, z3, z4, z5, z6, z7, y0, y1, y2, y3, y4, y5, y6, y7⟩ := box8 BK574.out) | (go_at_call 57; (with_reducible refine (endonymref6_list.calls kj57 _ _ l0_4 1 2 true _ ?side1 ?side2 A179.out).mono ?_); (case side1 => exact sqC (Kd.C_below HR0_4.out HB.out)); (case side2 => exact HC0_4.out); rintro e w' ⟨rfl, ⟨nd, rfl⟩⟩))
             go_ret
             exact ⟨sqE', sqH⟩
            replace c180 := Bool.eq_false_iff.mpr c180
            subst c180
            rw [if_neg (show ¬ (false = true) by decide)] at H
            obtain rfl := Option.some.inj H
            obtain ⟨z0, z1, z2, z3, z4, z5, z6, z7, y0, y1, y2, y3, y4, y5, y6, y7⟩ := box8 BK574.out
            go_wp2_with (first | (go_at_call 53; (with_reducible refine (endonymref6_bare.calls a0_0 a0_1 a0_2 a0_3 _ _ l0_4 a0_5 a0_6 a0_7 false true false false false true _ ?side1 ?side2 A177.out).mono ?_); (case side1 => exact sqC (Kd.C_below HR0_4.out HB.out)); (case side2 => exact HC0_4.out); rintro e w185 ⟨rfl, hb⟩; replace BK574 := Aside0.mk (sqM BK574.out hb); replace HB := Aside0.mk (below_step sqH hb); (try clear hb); obtain ⟨z0, z1, z2, z3, z4, z5, z6, z7, y0, y1, y2, y3, y4, y5, y6, y7⟩ := box8 BK574.out) | (go_at_call 57; (with_reducible refine (endonymref6_list.calls kj57 _ _ l0_4 1 2 false _ ?side1 ?side2 A179.out).mono ?_); (case side1 => exact sqC (Kd.C_below HR0_4.out HB.out)); (case side2 => exact HC0_4.out); rintro e w' ⟨rfl, ⟨nd, rfl⟩⟩))
            go_ret
            exact ⟨sqE', sqH⟩
          rw [if_neg c174] at H
          have c174b0 := beq_eq_false_iff_ne.mpr c174
          have c174b1 := bne_iff_ne.mpr c174
          by_cases c189 : a0_0 = 9
          ·as_aux_lemma =>
            rw [if_pos c189] at H
            have c189b0 := beq_iff_eq.mpr c189
            have c189b1 := bne_eq_false_iff_eq.mpr c189
            clear c189
            by_cases c190 : x3_44 = true
            case neg =>
             replace c190 := Bool.eq_false_iff.mpr c190
             subst c190
             rw [if_neg (show ¬ (false = true) by decide)] at H
             obtain rfl := Option.some.inj H
             go_wp2
             go_ret
             exact ⟨sqE', sqH⟩
            subst c190
            rw [if_pos rfl] at H
            obtain ⟨t596, A191, H⟩ := sqO H
            try dsimp only at H
            by_cases c192 : t596 = true
            case neg =>
             replace c192 := Bool.eq_false_iff.mpr c192
             subst c192
             rw [if_neg (show ¬ (false = true) by decide)] at H
             obtain rfl := Option.some.inj H
             obtain ⟨z0, z1, z2, z3, z4, z5, z6, z7, y0, y1, y2, y3, y4, y5, y6, y7⟩ := box8 BK574.out
             go_wp2_with (first | (go_at_call 53; (with_reducible refine (endonymref6_bare.calls a0_0 a0_1 a0_2 a0_3 _ _ l0_4 a0_5 a0_6 a0_7 true false false false false false _ ?side1 ?side2 A191.out).mono ?_); (case side1 => exact sqC (Kd.C_below HR0_4.out HB.out)); (case side2 => exact HC0_4.out); rintro e w205 ⟨rfl, hb⟩; replace BK574 := Aside0.mk (sqM BK574.out hb); replace HB := Aside0.mk (below_step sqH hb); (try clear hb)))
             go_ret
             exact ⟨sqE', sqH⟩
            subst c192
            rw [if_pos rfl] at H
            by_cases c193 : a0_3 ≥ 0
            case neg =>
             rw [if_neg c193] at H
             have c193b0 := decide_eq_false c193
             clear c193
             obtain rfl := Option.some.inj H
             obtain ⟨z0, z1, z2, z3, z4, z5, z6, z7, y0, y1, y2, y3, y4, y5, y6, y7⟩ := box8 BK574.out
             go_wp2_with (first | (go_at_call 53; (with_reducible refine (endonymref6_bare.calls a0_0 a0_1 a0_2 a0_3 _ _ l0_4 a0_5 a0_6 a0_7 true false false false false true _ ?side1 ?side2 A191.out).mono ?_); (case side1 => exact sqC (Kd.C_below HR0_4.out HB.out)); (case side2 => exact HC0_4.out); rintro e w202 ⟨rfl, hb⟩; replace BK574 := Aside0.mk (sqM BK574.out hb); replace HB := Aside0.mk (below_step sqH hb); (try clear hb); obtain ⟨z0, z1, z2, z3, z4, z5, z6, z7, y0, y1, y2, y3, y4, y5, y6, y7⟩ := box8 BK574.out))
             go_ret
             exact ⟨sqE', sqH⟩
            rw [if_pos c193] at H
            have c193b0 := decide_eq_true c193
            clear c193
            by_cases c194 : a0_3 ≤ 10
            ·rw [if_pos c194] at H
             have c194b0 := decide_eq_true c194
             clear c194
             obtain rfl := Option.some.inj H
             obtain ⟨z0, z1, z2, z3, z4, z5, z6, z7, y0, y1, y2, y3, y4, y5, y6, y7⟩ := box8 BK574.out
             go_wp2_with (first | (go_at_call 53; (with_reducible refine (endonymref6_bare.calls a0_0 a0_1 a0_2 a0_3 _ _ l0_4 a0_5 a0_6 a0_7 true false false false false true _ ?side1 ?side2 A191.out).mono ?_); (case side1 => exact sqC (Kd.C_below HR0_4.out HB.out)); (case side2 => exact HC0_4.out); rintro e w196 ⟨rfl, hb⟩; replace BK574 := Aside0.mk (sqM BK574.out hb); replace HB := Aside0.mk (below_step sqH hb); (try clear hb); obtain ⟨z0, z1, z2, z3, z4, z5, z6, z7, y0, y1, y2, y3, y4, y5, y6, y7⟩ := box8 BK574.out))
             go_ret
             exact ⟨sqE', sqH⟩
            rw [if_neg c194] at H
            have c194b0 := decide_eq_false c194
            clear c194
            obtain rfl := Option.some.inj H
            obtain ⟨z0, z1, z2, z3, z4, z5, z6, z7, y0, y1, y2, y3, y4, y5, y6, y7⟩ := box8 BK574.out
            go_wp2_with (first | (go_at_call 53; (with_reducible refine (endonymref6_bare.calls a0_0 a0_1 a0_2 a0_3 _ _ l0_4 a0_5 a0_6 a0_7 true false false false false true _ ?side1 ?side2 A191.out).mono ?_); (case side1 => exact sqC (Kd.C_below HR0_4.out HB.out)); (case side2 => exact HC0_4.out); rintro e w199 ⟨rfl, hb⟩; replace BK574 := Aside0.mk (sqM BK574.out hb); replace HB := Aside0.mk (below_step sqH hb); (try clear hb); obtain ⟨z0, z1, z2, z3, z4, z5, z6, z7, y0, y1, y2, y3, y4, y5, y6, y7⟩ := box8 BK574.out))
            go_ret
            exact ⟨sqE', sqH⟩
          rw [if_neg c189] at H
          have c189b0 := beq_eq_false_iff_ne.mpr c189
          have c189b1 := bne_iff_ne.mpr c189
          by_cases c206 : a0_0 = 10
          ·as_aux_lemma =>
            rw [if_pos c206] at H
            have c206b0 := beq_iff_eq.mpr c206
            have c206b1 := bne_eq_false_iff_eq.mpr c206
            clear c206
            by_cases c207 : x3_44 = true
            case neg =>
             replace c207 := Bool.eq_false_iff.mpr c207
             subst c207
             rw [if_neg (show ¬ (false = true) by decide)] at H
             obtain rfl := Option.some.inj H
             go_wp2
             go_ret
             exact ⟨sqE', sqH⟩
            subst c207
            rw [if_pos rfl] at H
            obtain ⟨t597, A208, H⟩ := sqO H
            try dsimp only at H
            by_cases c209 : t597 = true
            case neg =>
             replace c209 := Bool.eq_false_iff.mpr c209
             subst c209
             rw [if_neg (show ¬ (false = true) by decide)] at H
             obtain rfl := Option.some.inj H
             obtain ⟨z0, z1, z2, z3, z4, z5, z6, z7, y0, y1, y2, y3, y4, y5, y6, y7⟩ := box8 BK574.out
             go_wp2_with (first | (go_at_call 53; (with_reducible refine (endonymref6_bare.calls a0_0 a0_1 a0_2 a0_3 _ _ l0_4 a0_5 a0_6 a0_7 true false false false false false _ ?side1 ?side2 A208.out).mono ?_); (case side1 => exact sqC (Kd.C_below HR0_4.out HB.out)); (case side2 => exact HC0_4.out); rintro e w222 ⟨rfl, hb⟩; replace BK574 := Aside0.mk (sqM BK574.out hb); replace HB := Aside0.mk (below_step sqH hb); (try clear hb)))
             go_ret
             exact ⟨sqE', sqH⟩
            subst c209
            rw [if_pos rfl] at H
            by_cases c210 : a0_3 ≥ 0
            case neg =>
             rw [if_neg c210] at H
             have c210b0 := decide_eq_false c210
             clear c210
             obtain rfl := Option.some.inj H
             obtain ⟨z0, z1, z2, z3, z4, z5, z6, z7, y0, y1, y2, y3, y4, y5, y6, y7⟩ := box8 BK574.out
             go_wp2_with (first | (go_at_call 53; (with_reducible refine (endonymref6_bare.calls a0_0 a0_1 a0_2 a0_3 _ _ l0_4 a0_5 a0_6 a0_7 true false false false false true _ ?side1 ?side2 A208.out).mono ?_); (case side1 => exact sqC (Kd.C_below HR0_4.out HB.out)); (case side2 => exact HC0_4.out); rintro e w219 ⟨rfl, hb⟩; replace BK574 := Aside0.mk (sqM BK574.out hb); replace HB := Aside0.mk (below_step sqH hb); (try clear hb); obtain ⟨z0, z1, z2, z3, z4, z5, z6, z7, y0, y1, y2, y3, y4, y5, y6, y7⟩ := box8 BK574.out))
             go_ret
             exact ⟨sqE', sqH⟩
            rw [if_pos c210] at H
            have c210b0 := decide_eq_true c210
            clear c210
            by_cases c211 : a0_3 ≤ 5
            ·rw [if_pos c211] at H
             have c211b0 := decide_eq_true c211
             clear c211
             obtain rfl := Option.some.inj H
             obtain ⟨z0, z1, z2, z3, z4, z5, z6, z7, y0, y1, y2, y3, y4, y5, y6, y7⟩ := box8 BK574.out
             go_wp2_with (first | (go_at_call 53; (with_reducible refine (endonymref6_bare.calls a0_0 a0_1 a0_2 a0_3 _ _ l0_4 a0_5 a0_6 a0_7 true false false false false true _ ?side1 ?side2 A208.out).mono ?_); (case side1 => exact sqC (Kd.C_below HR0_4.out HB.out)); (case side2 => exact HC0_4.out); rintro e w213 ⟨rfl, hb⟩; replace BK574 := Aside0.mk (sqM BK574.out hb); replace HB := Aside0.mk (below_step sqH hb); (try clear hb); obtain ⟨z0, z1, z2, z3, z4, z5, z6, z7, y0, y1, y2, y3, y4, y5, y6, y7⟩ := box8 BK574.out))
             go_ret
             exact ⟨sqE', sqH⟩
            rw [if_neg c211] at H
            have c211b0 := decide_eq_false c211
            clear c211
            obtain rfl := Option.some.inj H
            obtain ⟨z0, z1, z2, z3, z4, z5, z6, z7, y0, y1, y2, y3, y4, y5, y6, y7⟩ := box8 BK574.out
            go_wp2_with (first | (go_at_call 53; (with_reducible refine (endonymref6_bare.calls a0_0 a0_1 a0_2 a0_3 _ _ l0_4 a0_5 a0_6 a0_7 true false false false false true _ ?side1 ?side2 A208.out).mono ?_); (case side1 => exact sqC (Kd.C_below HR0_4.out HB.out)); (case side2 => exact HC0_4.out); rintro e w216 ⟨rfl, hb⟩; replace BK574 := Aside0.mk (sqM BK574.out hb); replace HB := Aside0.mk (below_step sqH hb); (try clear hb); obtain ⟨z0, z1, z2, z3, z4, z5, z6, z7, y0, y1, y2, y3, y4, y5, y6, y7⟩ := box8 BK574.out))
            go_ret
            exact ⟨sqE', sqH⟩
          rw [if_neg c206] at H
          have c206b0 := beq_eq_false_iff_ne.mpr c206
          have c206b1 := bne_iff_ne.mpr c206
          by_cases c223 : a0_0 = 12
          ·as_aux_lemma =>
            rw [if_pos c223] at H
            have c223b0 := beq_iff_eq.mpr c223
            have c223b1 := bne_eq_false_iff_eq.mpr c223
            clear c223
            by_cases c224 : x3_44 = true
            case neg =>
             replace c224 := Bool.eq_false_iff.mpr c224
             subst c224
             rw [if_neg (show ¬ (false = true) by decide)] at H
             obtain rfl := Option.some.inj H
             go_wp2
             go_ret
             exact ⟨sqE', sqH⟩
            subst c224
            rw [if_pos rfl] at H
            obtain ⟨t598, A225, H⟩ := sqO H
            try dsimp only at H
            by_cases c226 : t598 = true
            case neg =>
             replace c226 := Bool.eq_false_iff.mpr c226
             subst c226
             rw [if_neg (show ¬ (false = true) by decide)] at H
             obtain rfl := Option.some.inj H
             obtain ⟨z0, z1, z2, z3, z4, z5, z6, z7, y0, y1, y2, y3, y4, y5, y6, y7⟩ := box8 BK574.out
             go_wp2_with (first | (go_at_call 53; (with_reducible refine (endonymref6_bare.calls a0_0 a0_1 a0_2 a0_3 _ _ l0_4 a0_5 a0_6 a0_7 false false true false false false _ ?side1 ?side2 A225.out).mono ?_); (case side1 => exact sqC (Kd.C_below HR0_4.out HB.out)); (case side2 => exact HC0_4.out); rintro e w236 ⟨rfl, hb⟩; replace BK574 := Aside0.mk (sqM BK574.out hb); replace HB := Aside0.mk (below_step sqH hb); (try clear hb)))
             go_ret
             exact ⟨sqE', sqH⟩
            subst c226
            rw [if_pos rfl] at H
            obtain ⟨t599, A227, H⟩ := sqO H
            try dsimp only at H
            by_cases c228 : t599 = true
            ·subst c228
             rw [if_pos rfl] at H
             obtain rfl := Option.some.inj H
             obtain ⟨z0, z1, z2, z3, z4, z5, z6, z7, y0, y1, y2, y3, y4, y5, y6, y7⟩ := box8 BK574.out
             go_wp2_with (first | (go_at_call 53; (with_reducible refine (endonymref6_bare.calls a0_0 a0_1 a0_2 a0_3 _ _ l0_4 a0_5 a0_6 a0_7 false false true false false true _ ?side1 ?side2 A225.out).mono ?_); (case side1 => exact sqC (Kd.C_below HR0_4.out HB.out)); (case side2 => exact HC0_4.out); rintro e w230 ⟨rfl, hb⟩; replace BK574 := Aside0.mk (sqM BK574.out hb); replace HB := Aside0.mk (below_step sqH hb); (try clear hb); obtain ⟨z0, z1, z2, z3, z4, z5, z6, z7, y0, y1, y2, y3, y4, y5, y6, y7⟩ := box8 BK574.out) | (go_at_call 54; (with_reducible refine (endonymref5_Name.calls kj57 a0_5 true _ A227.out).mono ?_); rintro e w' ⟨rfl, ⟨nd, rfl⟩⟩))
             go_ret
             exact ⟨sqE', sqH⟩
            replace c228 := Bool.eq_false_iff.mpr c228
            subst c228
            rw [if_neg (show ¬ (false = true) by decide)] at H
            obtain rfl := Option.some.inj H
            obtain ⟨z0, z1, z2, z3, z4, z5, z6, z7, y0, y1, y2, y3, y4, y5, y6, y7⟩ := box8 BK574.out
            go_wp2_with (first | (go_at_call 53; (with_reducible refine (endonymref6_bare.calls a0_0 a0_1 a0_2 a0_3 _ _ l0_4 a0_5 a0_6 a0_7 false false true false false true _ ?side1 ?side2 A225.out).mono ?_); (case side1 => exact sqC (Kd.C_below HR0_4.out HB.out)); (case side2 => exact HC0_4.out); rintro e w233 ⟨rfl, hb⟩; replace BK574 := Aside0.mk (sqM BK574.out hb); replace HB := Aside0.mk (below_step sqH hb); (try clear hb); obtain ⟨z0, z1, z2, z3, z4, z5, z6, z7, y0, y1, y2, y3, y4, y5, y6, y7⟩ := box8 BK574.out) | (go_at_call 54; (with_reducible refine (endonymref5_Name.calls kj57 a0_5 false _ A227.out).mono ?_); rintro e w' ⟨rfl, ⟨nd, rfl⟩⟩))
            go_ret
            exact ⟨sqE', sqH⟩
          rw [if_neg c223] at H
          have c223b0 := beq_eq_false_iff_ne.mpr c223
          have c223b1 := bne_iff_ne.mpr c223
          by_cases c237 : x3_44 = true
          case neg =>
           replace c237 := Bool.eq_false_iff.mpr c237
           subst c237
           rw [if_neg (show ¬ (false = true) by decide)] at H
           obtain rfl := Option.some.inj H
           go_wp2
           go_ret
           exact ⟨sqE', sqH⟩
          subst c237
          rw [if_pos rfl] at H
          obtain ⟨t600, A238, H⟩ := sqO H
          try dsimp only at H
          by_cases c239 : t600 = true
          case neg =>
           replace c239 := Bool.eq_false_iff.mpr c239
           subst c239
           rw [if_neg (show ¬ (false = true) by decide)] at H
           obtain rfl := Option.some.inj H
           obtain ⟨z0, z1, z2, z3, z4, z5, z6, z7, y0, y1, y2, y3, y4, y5, y6, y7⟩ := box8 BK574.out
           go_wp2_with (first | (go_at_call 53; (with_reducible refine (endonymref6_bare.calls a0_0 a0_1 a0_2 a0_3 _ _ l0_4 a0_5 a0_6 a0_7 false false false false true false _ ?side1 ?side2 A238.out).mono ?_); (case side1 => exact sqC (Kd.C_below HR0_4.out HB.out)); (case side2 => exact HC0_4.out); rintro e w249 ⟨rfl, hb⟩; replace BK574 := Aside0.mk (sqM BK574.out hb); replace HB := Aside0.mk (below_step sqH hb); (try clear hb)))
           go_ret
           exact ⟨sqE', sqH⟩
          subst c239
          rw [if_pos rfl] at H
          obtain ⟨t601, A240, H⟩ := sqO H
          try dsimp only at H
          by_cases c241 : t601 = true
          ·subst c241
           rw [if_pos rfl] at H
           obtain rfl := Option.some.inj H
           obtain ⟨z0, z1, z2, z3, z4, z5, z6, z7, y0, y1, y2, y3, y4, y5, y6, y7⟩ := box8 BK574.out
           go_wp2_with (first | (go_at_call 53; (with_reducible refine (endonymref6_bare.calls a0_0 a0_1 a0_2 a0_3 _ _ l0_4 a0_5 a0_6 a0_7 false false false false true true _ ?side1 ?side2 A238.out).mono ?_); (case side1 => exact sqC (Kd.C_below HR0_4.out HB.out)); (case side2 => exact HC0_4.out); rintro e w243 ⟨rfl, hb⟩; replace BK574 := Aside0.mk (sqM BK574.out hb); replace HB := Aside0.mk (below_step sqH hb); (try clear hb); obtain ⟨z0, z1, z2, z3, z4, z5, z6, z7, y0, y1, y2, y3, y4, y5, y6, y7⟩ := box8 BK574.out) | (go_at_call 55; (with_reducible refine (endonymref6_weight.calls a0_7 true _ A240.out).mono ?_); rintro e w' ⟨rfl, ⟨nd, rfl⟩⟩))
           go_ret
           exact ⟨sqE', sqH⟩
          replace c241 := Bool.eq_false_iff.mpr c241
          subst c241
          rw [if_neg (show ¬ (false = true) by decide)] at H
          obtain rfl := Option.some.inj H
          obtain ⟨z0, z1, z2, z3, z4, z5, z6, z7, y0, y1, y2, y3, y4, y5, y6, y7⟩ := box8 BK574.out
          go_wp2_with (first | (go_at_call 53; (with_reducible refine (endonymref6_bare.calls a0_0 a0_1 a0_2 a0_3 _ _ l0_4 a0_5 a0_6 a0_7 false false false false true true _ ?side1 ?side2 A238.out).mono ?_); (case side1 => exact sqC (Kd.C_below HR0_4.out HB.out)); (case side2 => exact HC0_4.out); rintro e w246 ⟨rfl, hb⟩; replace BK574 := Aside0.mk (sqM BK574.out hb); replace HB := Aside0.mk (below_step sqH hb); (try clear hb); obtain ⟨z0, z1, z2, z3, z4, z5, z6, z7, y0, y1, y2, y3, y4, y5, y6, y7⟩ := box8 BK574.out) | (go_at_call 55; (with_reducible refine (endonymref6_weight.calls a0_7 false _ A240.out).mono ?_); rintro e w' ⟨rfl, ⟨nd, rfl⟩⟩))
          go_ret
          exact ⟨sqE', sqH⟩
end Go.Proofs.YtnoppeocbfapdaaGreatDoor.T
