import Derived.Test.YtnoppeocbfapdaaGreatDoorTx0
import Derived.Test.YtnoppeocbfapdaaGreatDoorTx1
import Derived.Test.YtnoppeocbfapdaaGreatDoorTx14
import Derived.Test.YtnoppeocbfapdaaGreatDoorTx16
import Derived.Test.YtnoppeocbfapdaaGreatDoorTx17
namespace Go.Proofs.YtnoppeocbfapdaaGreatDoor.T
open Go.RowKit Go.Proofs.YtnoppeocbfapdaaGreatDoorW.PrintWords Go.Proofs.YtnoppeocbfapdaaGreatDoorW.PrintLast Go.Proofs.YtnoppeocbfapdaaGreatDoorW.PrintMore
set_option maxHeartbeats 8000000
set_option maxRecDepth 100000
attribute [local go_sem] max2_int min2_int max_two min_two max_three min_three max_four min_four
set_option linter.unusedVariables false
set_option linter.unusedSimpArgs false
mutual
noncomputable def endonymlaw6_TableFinds.l0 : Nat → List (S25) → Int → List Int → List (S25) → Int → Option (Bool)
 | 0, _, _, _, _, _ => none
 | k + 1, x0, x1, x2, x7, x8 => if x8 < (x2.length : Int) then (endonymlaw6_TableFinds.j1 k x0 x1 x2 x7 x8 (decide (x8 < 60))) else (endonymlaw6_TableFinds.j1 k x0 x1 x2 x7 x8 false)
noncomputable def endonymlaw6_TableFinds.j1 : Nat → List (S25) → Int → List Int → List (S25) → Int → Bool → Option (Bool)
 | 0, _, _, _, _, _, _ => none
 | k + 1, x0, x1, x2, x7, x8, x19 => if x19 = true then (if (Int.tmod x8 3) > 0 then (endonymlaw6_TableFinds.j2 k x0 x1 x2 x7 x8 (Int.tmod x8 12)) else (endonymlaw6_TableFinds.j2 k x0 x1 x2 x7 x8 x1)) else ((endonymlaw6_told.f).bind fun t564 => (if t564 = true then ((table_Family.f k x1).bind fun t565 => ((endonymref6_Family.f x1).bind fun t566 => (if t565 = t566 then ((endonymlaw6_whole.f k x7 x0).bind fun t567 => (some t567)) else (some false)))) else (some false)))
noncomputable def endonymlaw6_TableFinds.j2 : Nat → List (S25) → Int → List Int → List (S25) → Int → Int → Option (Bool)
 | 0, _, _, _, _, _, _ => none
 | k + 1, x0, x1, x2, x7, x8, x9 => if 0 ≤ x8 then (if x8 < (x2.length : Int) then ((table_Find.f k x7 x9 (rd x2 x8)).bind fun t557 => (if 0 ≤ (x7.length : Int) then (if (x7.length : Int) ≤ (x0.length : Int) then ((endonymref6_Find.f k (x0.take ((x7.length : Int) : Int).toNat) x9 (rd x2 x8)).bind fun t563 => (if t557 = t563 then (endonymlaw6_TableFinds.l0 k x0 x1 x2 x7 (wrap64 (x8 + 1))) else (some false))) else (none)) else (none))) else (none)) else (none)
end
noncomputable def endonymlaw6_TableFinds.f (k : Nat) (l0 : List (S25)) (a1 : Int) (l2 : List Int) : Option (Bool) := (endonymlaw6_few.f k l0 120).bind fun t553 => (endonymlaw6_TableFinds.l0 k l0 a1 l2 t553 0)
theorem endonymlaw6_TableFinds.mono_l : ∀ k, (∀ y0 y1 y2 y3 y4, LeO (endonymlaw6_TableFinds.l0 k y0 y1 y2 y3 y4) (endonymlaw6_TableFinds.l0 (k + 1) y0 y1 y2 y3 y4)) ∧ (∀ y0 y1 y2 y3 y4 y5, LeO (endonymlaw6_TableFinds.j1 k y0 y1 y2 y3 y4 y5) (endonymlaw6_TableFinds.j1 (k + 1) y0 y1 y2 y3 y4 y5)) ∧ (∀ y0 y1 y2 y3 y4 y5, LeO (endonymlaw6_TableFinds.j2 k y0 y1 y2 y3 y4 y5) (endonymlaw6_TableFinds.j2 (k + 1) y0 y1 y2 y3 y4 y5))
 | 0 => ⟨fun _ _ _ _ _ r h => by simp [endonymlaw6_TableFinds.l0] at h, fun _ _ _ _ _ _ r h => by simp [endonymlaw6_TableFinds.j1] at h, fun _ _ _ _ _ _ r h => by simp [endonymlaw6_TableFinds.j2] at h⟩
 | k + 1 => by
  obtain ⟨ih0, ih1, ih2⟩ := endonymlaw6_TableFinds.mono_l k
  refine ⟨?_, ?_, ?_⟩
  ·intro y0 y1 y2 y3 y4
   unfold endonymlaw6_TableFinds.l0
   repeat' first | (with_reducible first | apply ih0 | apply ih1 | apply ih2 | apply endonymlaw6_few.mono | apply endonymlaw6_whole.mono | apply endonymref6_Find.mono | apply table_Family.mono | apply table_Find.mono | apply LeO.refl | apply LeO.none | refine LeO.ite ?_ ?_ | refine LeO.bind ?_ (fun _ => ?_)) | apply LeO.none | refine LeO.ite ?_ ?_ | refine LeO.bind ?_ (fun _ => ?_)
  ·intro y0 y1 y2 y3 y4 y5
   unfold endonymlaw6_TableFinds.j1
   repeat' first | (with_reducible first | apply ih0 | apply ih1 | apply ih2 | apply endonymlaw6_few.mono | apply endonymlaw6_whole.mono | apply endonymref6_Find.mono | apply table_Family.mono | apply table_Find.mono | apply LeO.refl | apply LeO.none | refine LeO.ite ?_ ?_ | refine LeO.bind ?_ (fun _ => ?_)) | apply LeO.none | refine LeO.ite ?_ ?_ | refine LeO.bind ?_ (fun _ => ?_)
  intro y0 y1 y2 y3 y4 y5
  unfold endonymlaw6_TableFinds.j2
  repeat' first | (with_reducible first | apply ih0 | apply ih1 | apply ih2 | apply endonymlaw6_few.mono | apply endonymlaw6_whole.mono | apply endonymref6_Find.mono | apply table_Family.mono | apply table_Find.mono | apply LeO.refl | apply LeO.none | refine LeO.ite ?_ ?_ | refine LeO.bind ?_ (fun _ => ?_)) | apply LeO.none | refine LeO.ite ?_ ?_ | refine LeO.bind ?_ (fun _ => ?_)
theorem endonymlaw6_TableFinds.mono : ∀ a0 a1 a2 k, LeO (endonymlaw6_TableFinds.f k a0 a1 a2) (endonymlaw6_TableFinds.f (k + 1) a0 a1 a2) := by
 intro a0 a1 a2 k
 obtain ⟨ih0, ih1, ih2⟩ := endonymlaw6_TableFinds.mono_l k
 unfold endonymlaw6_TableFinds.f
 repeat' first | (with_reducible first | apply ih0 | apply ih1 | apply ih2 | apply endonymlaw6_few.mono | apply endonymlaw6_whole.mono | apply endonymref6_Find.mono | apply table_Family.mono | apply table_Find.mono | apply LeO.refl | apply LeO.none | refine LeO.ite ?_ ?_ | refine LeO.bind ?_ (fun _ => ?_)) | apply LeO.none | refine LeO.ite ?_ ?_ | refine LeO.bind ?_ (fun _ => ?_)
noncomputable def endonymlaw6_TableFinds.T8 : Bool × List (List Nat × List Nat) := (true, [([], []), ([], []), ([], []), ([], []), ([2, 3], [2, 3]), ([4], [4]), ([0, 1, 5], [0, 1, 5]), ([], []), ([], []), ([8], [8]), ([7, 9], [7, 9]), ([], []), ([], []), ([], []), ([12, 13], [12, 13]), ([14], [14]), ([10, 11, 15, 6], [10, 11, 15]), ([6, 16], [6, 16])])
noncomputable def endonymlaw6_TableFinds.B8 : List Nat := [0, 0, 0, 0, 12, 28, 63, 0, 0, 256, 896, 0, 0, 0, 12288, 28672, 65535, 131071]
theorem endonymlaw6_TableFinds.tab8 : rtab .any (opsOf Tryz.f10 8) = endonymlaw6_TableFinds.T8 := by kernel_rfl
theorem endonymlaw6_TableFinds.bits8 : waitsOk endonymlaw6_TableFinds.T8.2 endonymlaw6_TableFinds.B8 = true := by kernel_rfl
theorem endonymlaw6_TableFinds.calls (k : Nat) (A0 : Option Addr) (c0 : Nat) (l0 : List (S25)) (a1 : Int) (A2 : Option Addr) (c2 : Nat) (l2 : List Int) (r : Bool) (w : World) (htab : Aside0 (Rm.Tab w)) (hr0 : Kd.C k25 w A0 l0.length l0) (hc0 : l0.length ≤ c0) (hr2 : Kd.C (Kd.int .i32) w A2 l2.length l2) (hc2 : l2.length ≤ c2) (h : endonymlaw6_TableFinds.f k l0 a1 l2 = some r) :
  Calls Tryz.prog 10 #[.slice A0 l0.length c0, .int .i64 a1, .slice A2 l2.length c2] w fun e w' => e = .returned (.bool r) ∧ Below w.heap.size w w' := by
 have HR0 := Aside0.mk hr0
 have HC0 := Aside0.mk hc0
 clear hr0 hc0
 have HR2 := Aside0.mk hr2
 have HC2 := Aside0.mk hc2
 clear hr2 hc2
 have HB := Aside0.mk (Below.refl w.heap.size w)
 have H : ((endonymlaw6_few.f k l0 120).bind fun t553 => (endonymlaw6_TableFinds.l0 k l0 a1 l2 t553 0)) = some r := h
 clear h
 obtain ⟨t553, A4, H⟩ := sqO H
 try dsimp only at H
 have H' := Aside0.mk H
 clear H
 go_enter Tryz.func10, Tryz.ntmps10
 go_wp2_with (first | ((with_reducible refine gate_callee (f := 14) rfl ?_); refine goesL_ (some 11) rfl rfl Tryz.func14 (by kernel_rfl) rfl #[.slice A0 l0.length c0, .int .i64 120] rfl sqA ?_; (with_reducible refine (endonymlaw6_few.calls k _ _ l0 120 t553 _ ?side1 ?side2 A4.out).mono ?_); (case side1 => repeat (first | exact HR0.out | (with_reducible refine Kd.C_alloc ?_ _) | (with_reducible refine Kd.C_drewN ?_ _) | (with_reducible refine Kd.C_drew ?_))); (case side2 => exact HC0.out); rintro e w5 ⟨v554, rfl, ho0, hb⟩; refine ⟨_, rfl, ?_⟩; have n0_ := Aside0.mk (FewS_lower ho0 (below_size sqB)); have n1_ := Aside0.mk (below_step sqB hb); clear HB; have HO555 := n0_; have HB := n1_; clear n0_ n1_; (try clear hb); (try clear hb2); (try clear hk); (try clear hi); (try clear ho0)))
 try simp only [Act.put, List.setIfInBounds_toArray, List.set_cons_zero, List.set_cons_succ]
 go_loopg [8] k (fun kq v8 w' => ∃ (x8_1 : Int), v8 = .int .i64 x8_1 ∧ Aside0 (endonymlaw6_TableFinds.l0 kq l0 a1 l2 t553 x8_1 = some r) ∧ Aside0 (kq ≤ k) ∧ Aside0 (FewS w' w.heap.size v554 t553) ∧ Aside0 (Below w.heap.size w w'))
 case atStart => exact ⟨(0), sqE, H', ⟨Nat.le_refl _⟩, ⟨by (with_reducible repeat (first | apply FewS_alloc | apply FewS_drewN | apply FewS_drew)); exact HO555.out⟩, ⟨sqB⟩⟩
 case round =>
  clear H'
  try clear c1
  try clear c2
  try clear p2
  obtain ⟨x8_1, rfl, HA, HK1, HO_7, HB⟩ := hrel
  cases gk with
  | zero => exact absurd HA.out (by simp [endonymlaw6_TableFinds.l0])
  | succ k1 =>
   have H := HA.out
   clear HA
   simp only [endonymlaw6_TableFinds.l0] at H
   have HC6 := Aside0.mk H
   clear H
   go_upto_region 3 with (fail)
   go_cut [19] (fun v19 wc => ∃ (kq : Nat) (x19_5 : Bool), v19 = .bool x19_5 ∧ Aside0 (endonymlaw6_TableFinds.j1 kq l0 a1 l2 t553 x8_1 x19_5 = some r) ∧ Aside0 (kq ≤ k1) ∧ Aside0 (FewS wc w.heap.size v554 t553) ∧ Aside0 (Below w.heap.size w wc))
   case first =>
    have H := HC6.out
    clear HC6
    by_cases c7 : x8_1 < (l2.length : Int)
    ·rw [if_pos c7] at H
     have c7b0 := decide_eq_true c7
     clear c7
     (first | rw [c7b0] | (simp only [i64_w, i32_w]; rw [c7b0]) | skip)
     have H' := Aside0.mk H
     clear H
     go_wp2
     go_meet
     case rel => exact ⟨_, (decide (x8_1 < 60)), sqE, H', ⟨by have := HK1.out; first | omega | exact Nat.le_refl _⟩, ⟨by (with_reducible repeat (first | apply FewS_alloc | apply FewS_drewN | apply FewS_drew)); exact HO_7.out⟩, ⟨sqB⟩⟩
    rw [if_neg c7] at H
    have c7b0 := decide_eq_false c7
    clear c7
    (first | rw [c7b0] | (simp only [i64_w, i32_w]; rw [c7b0]) | skip)
    have H' := Aside0.mk H
    clear H
    go_wp2
    go_meet
    case rel => exact ⟨_, (false), sqE, H', ⟨by have := HK1.out; first | omega | exact Nat.le_refl _⟩, ⟨by (with_reducible repeat (first | apply FewS_alloc | apply FewS_drewN | apply FewS_drew)); exact HO_7.out⟩, ⟨sqB⟩⟩
   case rest =>
    clear HC6
    try clear c1
    try clear c2
    try clear p2
    try clear c7
    try clear c7b0
    try clear p2
    obtain ⟨kq, x19_5, rfl, HA, HJ5, HO_7, HB⟩ := hcut
    cases kq with
    | zero => exact absurd HA.out (by simp [endonymlaw6_TableFinds.j1])
    | succ kj5 =>
     have H := HA.out
     clear HA
     simp only [endonymlaw6_TableFinds.j1] at H
     by_cases c8 : x19_5 = true
     case neg =>
      replace c8 := Bool.eq_false_iff.mpr c8
      subst c8
      have H1 : ((endonymlaw6_told.f).bind fun t564 => (if t564 = true then ((table_Family.f kj5 a1).bind fun t565 => ((endonymref6_Family.f a1).bind fun t566 => (if t565 = t566 then ((endonymlaw6_whole.f kj5 t553 l0).bind fun t567 => (some t567)) else (some false)))) else (some false))) = some r := by rw [if_neg (show ¬ (false = true) by decide)] at H; exact H
      clear H
      have H := H1
      clear H1
      obtain ⟨t564, A28, H⟩ := sqO H
      try dsimp only at H
      by_cases c29 : t564 = true
      case neg =>
       replace c29 := Bool.eq_false_iff.mpr c29
       subst c29
       have H1 : (some false) = some r := by rw [if_neg (show ¬ (false = true) by decide)] at H; exact H
       clear H
       have H := H1
       clear H1
       obtain rfl := Option.some.inj H
       go_wp2_with (first | ((with_reducible refine gate_callee (f := 18) rfl ?_); refine goesL_ (some 46) rfl rfl Tryz.func18 (by kernel_rfl) rfl #[] rfl sqA ?_; (with_reducible refine (endonymlaw6_told.calls  false _ ⟨htab.out.below sqB⟩ A28.out).mono ?_); rintro e w38 ⟨rfl, hb⟩; refine ⟨_, rfl, ?_⟩; have n0_ := Aside0.mk (FewS_below (by (with_reducible repeat (first | apply FewS_alloc | apply FewS_drewN | apply FewS_drew)); exact HO_7.out) hb); have n1_ := Aside0.mk (below_step sqB hb); clear HO_7; clear HB; have HO_7 := n0_; have HB := n1_; clear n0_ n1_; (try clear hb); (try clear hb2); (try clear hk); (try clear hi)))
       go_ret
       exact ⟨sqE', sqB⟩
      subst c29
      have H1 : ((table_Family.f kj5 a1).bind fun t565 => ((endonymref6_Family.f a1).bind fun t566 => (if t565 = t566 then ((endonymlaw6_whole.f kj5 t553 l0).bind fun t567 => (some t567)) else (some false)))) = some r := by rw [if_pos rfl] at H; exact H
      clear H
      have H := H1
      clear H1
      obtain ⟨t565, A30, H⟩ := sqO H
      try dsimp only at H
      obtain ⟨t566, A31, H⟩ := sqO H
      try dsimp only at H
      by_cases c32 : t565 = t566
      case neg =>
       rw [if_neg c32] at H
       have c32b0 := beq_eq_false_iff_ne.mpr c32
       have c32b1 := bne_iff_ne.mpr c32
       obtain rfl := Option.some.inj H
       go_wp2_with (first | ((with_reducible refine gate_callee (f := 18) rfl ?_); refine goesL_ (some 46) rfl rfl Tryz.func18 (by kernel_rfl) rfl #[] rfl sqA ?_; (with_reducible refine (endonymlaw6_told.calls  true _ ⟨htab.out.below sqB⟩ A28.out).mono ?_); rintro e w37 ⟨rfl, hb⟩; refine ⟨_, rfl, ?_⟩; have n0_ := Aside0.mk (FewS_below (by (with_reducible repeat (first | apply FewS_alloc | apply FewS_drewN | apply FewS_drew)); exact HO_7.out) hb); have n1_ := Aside0.mk (below_step sqB hb); clear HO_7; clear HB; have HO_7 := n0_; have HB := n1_; clear n0_ n1_; (try clear hb); (try clear hb2); (try clear hk); (try clear hi)) | (go_at_call 32; (with_reducible refine (table_Family.calls kj5 a1 t565 _ A30.out).mono ?_); rintro e w' ⟨rfl, ⟨nd, rfl⟩⟩) | (go_at_call 33; (with_reducible refine (endonymref6_Family.calls a1 t566 _ A31.out).mono ?_); rintro e w' ⟨rfl, ⟨nd, rfl⟩⟩))
       go_ret
       exact ⟨sqE', sqB⟩
      rw [if_pos c32] at H
      have c32b0 := beq_iff_eq.mpr c32
      have c32b1 := bne_eq_false_iff_eq.mpr c32
      clear c32
      obtain ⟨t567, A33, H⟩ := sqO H
      try dsimp only at H
      obtain rfl := Option.some.inj H
      go_wp2_with (first | ((with_reducible refine gate_callee (f := 18) rfl ?_); refine goesL_ (some 46) rfl rfl Tryz.func18 (by kernel_rfl) rfl #[] rfl sqA ?_; (with_reducible refine (endonymlaw6_told.calls  true _ ⟨htab.out.below sqB⟩ A28.out).mono ?_); rintro e w34 ⟨rfl, hb⟩; refine ⟨_, rfl, ?_⟩; have n0_ := Aside0.mk (FewS_below (by (with_reducible repeat (first | apply FewS_alloc | apply FewS_drewN | apply FewS_drew)); exact HO_7.out) hb); have n1_ := Aside0.mk (below_step sqB hb); clear HO_7; clear HB; have HO_7 := n0_; have HB := n1_; clear n0_ n1_; (try clear hb); (try clear hb2); (try clear hk); (try clear hi)) | (go_at_call 32; (with_reducible refine (table_Family.calls kj5 a1 t565 _ A30.out).mono ?_); rintro e w' ⟨rfl, ⟨nd, rfl⟩⟩) | (go_at_call 33; (with_reducible refine (endonymref6_Family.calls a1 t566 _ A31.out).mono ?_); rintro e w' ⟨rfl, ⟨nd, rfl⟩⟩; obtain ⟨Ao35, co35, eo35⟩ := Kd.S_slice HO_7.out.1; subst eo35) | (go_at_call 20; (with_reducible refine (endonymlaw6_whole.calls kj5 _ _ t553 _ _ l0 t567 _ ?side1 ?side2 ?side3 ?side4 ?sideF A33.out).mono ?_); (case side1 => repeat (first | exact (Kd.S_reads' HO_7.out.1).2.2 | (with_reducible refine Kd.C_alloc ?_ _) | (with_reducible refine Kd.C_drewN ?_ _) | (with_reducible refine Kd.C_drew ?_))); (case side2 => exact (Kd.S_reads' HO_7.out.1).2.1); (case side3 => repeat (first | exact (Kd.C_below HR0.out sqB) | (with_reducible refine Kd.C_alloc ?_ _) | (with_reducible refine Kd.C_drewN ?_ _) | (with_reducible refine Kd.C_drew ?_))); (case side4 => exact HC0.out); (case sideF => exact (show FewS _ w.heap.size _ _ from by (with_reducible repeat (first | apply FewS_alloc | apply FewS_drewN | apply FewS_drew)); exact HO_7.out).2); rintro e w36 ⟨rfl, hb⟩; have n0_ := Aside0.mk (FewS_below (by (with_reducible repeat (first | apply FewS_alloc | apply FewS_drewN | apply FewS_drew)); exact HO_7.out) hb); have n1_ := Aside0.mk (below_step sqB hb); clear HO_7; clear HB; have HO_7 := n0_; have HB := n1_; clear n0_ n1_; (try clear hb); (try clear hb2); (try clear hk); (try clear hi)))
      go_ret
      exact ⟨sqE', sqB⟩
     subst c8
     have H1 : (if (Int.tmod x8_1 3) > 0 then (endonymlaw6_TableFinds.j2 kj5 l0 a1 l2 t553 x8_1 (Int.tmod x8_1 12)) else (endonymlaw6_TableFinds.j2 kj5 l0 a1 l2 t553 x8_1 a1)) = some r := by rw [if_pos rfl] at H; exact H
     clear H
     have H := H1
     clear H1
     have HC9 := Aside0.mk H
     clear H
     go_upto_if 25 with (fail)
     go_cut [9] (fun v9 wc => ∃ (kq : Nat) (x9_8 : Int), v9 = .int .i64 x9_8 ∧ Aside0 (endonymlaw6_TableFinds.j2 kq l0 a1 l2 t553 x8_1 x9_8 = some r) ∧ Aside0 (kq ≤ kj5) ∧ Aside0 (FewS wc w.heap.size v554 t553) ∧ Aside0 (Below w.heap.size w wc))
     case first =>
      have H := HC9.out
      clear HC9
      by_cases c10 : (Int.tmod x8_1 3) > 0
      ·rw [if_pos c10] at H
       have c10b0 := decide_eq_true c10
       clear c10
       (first | rw [c10b0] | (simp only [i64_w, i32_w]; rw [c10b0]) | skip)
       have H' := Aside0.mk H
       clear H
       go_wp2
       go_meet
       case rel => exact ⟨_, (Int.tmod x8_1 12), sqE, H', ⟨by have := HK1.out; have := HJ5.out; first | omega | exact Nat.le_refl _⟩, ⟨by (with_reducible repeat (first | apply FewS_alloc | apply FewS_drewN | apply FewS_drew)); exact HO_7.out⟩, ⟨sqB⟩⟩
      rw [if_neg c10] at H
      have c10b0 := decide_eq_false c10
      clear c10
      (first | rw [c10b0] | (simp only [i64_w, i32_w]; rw [c10b0]) | skip)
      have H' := Aside0.mk H
      clear H
      go_wp2
      go_meet
      case rel => exact ⟨_, (a1), sqE, H', ⟨by have := HK1.out; have := HJ5.out; first | omega | exact Nat.le_refl _⟩, ⟨by (with_reducible repeat (first | apply FewS_alloc | apply FewS_drewN | apply FewS_drew)); exact HO_7.out⟩, ⟨sqB⟩⟩
     case rest =>
      clear HC9
      try clear c1
      try clear c2
      try clear p2
      try clear c7
      try clear c7b0
      try clear c8
      try clear c10
      try clear c10b0
      try clear p2
      obtain ⟨kq, x9_8, rfl, HA, HJ8, HO_7, HB⟩ := hcut
      cases kq with
      | zero => exact absurd HA.out (by simp [endonymlaw6_TableFinds.j2])
      | succ kj8 =>
       have H := HA.out
       clear HA
       simp only [endonymlaw6_TableFinds.j2] at H
       by_cases c11 : 0 ≤ x8_1
       case neg => rw [if_neg c11] at H; exact absurd H (by simp)
       rw [if_pos c11] at H
       have c11b0 := decide_eq_true c11
       clear c11
       by_cases c12 : x8_1 < (l2.length : Int)
       case neg => rw [if_neg c12] at H; exact absurd H (by simp)
       rw [if_pos c12] at H
       have c12b0 := decide_eq_true c12
       clear c12
       obtain ⟨t557, A13, H⟩ := sqO H
       try dsimp only at H
       by_cases c14 : 0 ≤ (t553.length : Int)
       case neg => rw [if_neg c14] at H; exact absurd H (by simp)
       rw [if_pos c14] at H
       have c14b0 := eq_true c14
       have c14b1 := decide_eq_true c14
       clear c14
       by_cases c15 : (t553.length : Int) ≤ (l0.length : Int)
       case neg => rw [if_neg c15] at H; exact absurd H (by simp)
       rw [if_pos c15] at H
       have c15b0 := eq_true c15
       have c15b1 := decide_eq_true c15
       clear c15
       obtain ⟨y558, hy558⟩ : ∃ y_ : List (S25), y_ = (l0.take ((t553.length : Int) : Int).toNat) := ⟨_, rfl⟩
       replace H : ((endonymref6_Find.f kj8 y558 x9_8 (rd l2 x8_1)).bind fun t563 => (if t557 = t563 then (endonymlaw6_TableFinds.l0 kj8 l0 a1 l2 t553 (wrap64 (x8_1 + 1))) else (some false))) = some r := by first | (rw [hy558]; with_reducible exact H) | (have H2_ := (Option.bind_some _ _).symm.trans H; rw [hy558]; with_reducible exact H2_) | (have H2_ := (Option.bind_some _ _).symm.trans H; with_reducible exact H2_) | with_reducible exact H | (rw [hy558]; exact H) | exact H
       have Ny558 := Aside0.mk hy558
       clear hy558
       obtain ⟨t563, A16, H⟩ := sqO H
       try dsimp only at H
       by_cases c17 : t557 = t563
       ·rw [if_pos c17] at H
        have c17b0 := beq_iff_eq.mpr c17
        have c17b1 := bne_eq_false_iff_eq.mpr c17
        clear c17
        have H' := Aside0.mk H
        clear H
        try go_wp2
        have n0_ := Aside0.mk (FewS_drew HO_7.out)
        have n1_ := Aside0.mk (below_drew1 HB.out)
        clear HO_7
        clear HB
        have HO_7 := n0_
        have HB := n1_
        clear n0_ n1_
        have p556 : 0 ≤ (x8_1 : Int) := sqD
        have q556 : x8_1 < (l2.length : Int) := sqD
        obtain ⟨ad556, e556, hx556_0⟩ := Kd.at_int HR2.out x8_1 p556 q556
        have hw556_0 := hx556_0
        cases e556
        replace hx556_0 := (HB.out.cell (World.block_lt_of_cell? w _ hx556_0)).trans hx556_0
        replace p556 := eq_true p556
        replace q556 := eq_true q556
        obtain ⟨Ao19, co19, eo19⟩ := Kd.S_slice HO_7.out.1
        (first | subst eo19 | (injection eo19 with f1_ f2_ f3_; have f4_ := f1_.symm; have f5_ := f3_.symm; clear f1_ f2_ f3_; subst f4_; subst f5_))
        have q20 : ((t553.length : Int) : Int) ≤ ((l0.length : Int) : Int) := sqD
        obtain ⟨i020, hi020, _, hsz20, _⟩ := info_parts info25
        have hroom20 : l0.length ≤ c0 := HC0.out
        have hC20 : Kd.C k25 _ A0 l0.length l0 := HR0.out
        have hcut20 := cut_to (P := Tryz.prog) 26 25 .i64 Tryz.underlying26 hi020 A0 l0.length c0 (t553.length : Int) sqD q20 hroom20
        have hr20 := Kd.C_take (m := ((t553.length : Int) : Int).toNat) hC20 (by omega)
        have hy20 : y558.length = ((t553.length : Int) : Int).toNat := (by rw [Ny558.out, List.length_take]; omega)
        rw [← Ny558.out] at hr20
        rw [← hy20] at hcut20
        have HR561 := Aside0.mk hr20
        have HC561 := Aside0.mk (show y558.length ≤ c0 from by omega)
        clear hr20 hC20 hroom20 hi020 hsz20
        have KY20 := Aside0.mk hy20
        clear hy20
        replace q20 := eq_true q20
        have p562 : 0 ≤ (x8_1 : Int) := sqD
        have q562 : x8_1 < (l2.length : Int) := sqD
        obtain ⟨ad562, e562, hx562_0⟩ := Kd.at_int HR2.out x8_1 p562 q562
        have hw562_0 := hx562_0
        obtain rfl : ad556 = ad562 := (by injection e562)
        replace hx562_0 := (HB.out.cell (World.block_lt_of_cell? w _ hx562_0)).trans hx562_0
        replace p562 := eq_true p562
        replace q562 := eq_true q562
        refine start_ (n := 18) (S := fun w' => w'.cell? (ad556.add (x8_1).toNat) = some (.int .i32 (rd l2 x8_1)) ∧ w'.cell? (ad556.add (x8_1).toNat) = some (.int .i32 (rd l2 x8_1))) (ds := []) #[false, false, false, false, false, false, false, false, false, false, false, false, false, false, false, false, false, false] (by kernel_rfl) rfl rfl ⟨((HB.out.cell (World.block_lt_of_cell? w _ hw556_0)).trans hw556_0), ((HB.out.cell (World.block_lt_of_cell? w _ hw562_0)).trans hw562_0)⟩ (fun hHeld => ?_); refine with_tabW endonymlaw6_TableFinds.tab8 endonymlaw6_TableFinds.bits8 (fun HT_ HW_ => ?_)
        generalize wc.drew = w18 at HO_7 HB HR561 hx556_0 hx562_0 hHeld ⊢
        refine pure_ (i := 0) (N := some 28) (v := ?_) (a' := ?_) #[true, false, false, false, false, false, false, false, false, false, false, false, false, false, false, false, false, false] rfl rfl (any_of HT_.out (by kernel_rfl)) (fun _ _ _ h => h) (Or.inl ⟨by rfl, ?_⟩) ?_ ?_
        rotate_left
        ·intro w'
         go_simp
         with_reducible rfl
        rotate_left
        ·simp only [Act.put, List.setIfInBounds_toArray, List.set_cons_zero, List.set_cons_succ, i64_w, i32_w]
         rfl
        refine pure_ (i := 1) (N := some 29) (v := ?_) (a' := ?_) #[true, true, false, false, false, false, false, false, false, false, false, false, false, false, false, false, false, false] rfl rfl (any_of HT_.out (by kernel_rfl)) (fun _ _ _ h => h) (Or.inl ⟨by rfl, ?_⟩) ?_ ?_
        rotate_left
        ·intro w'
         go_simp
         with_reducible rfl
        rotate_left
        ·simp only [Act.put, List.setIfInBounds_toArray, List.set_cons_zero, List.set_cons_succ, i64_w, i32_w]
         rfl
        refine pure_ (i := 2) (N := some 30) (v := ?_) (a' := ?_) #[true, true, true, false, false, false, false, false, false, false, false, false, false, false, false, false, false, false] rfl rfl (any_of HT_.out (by kernel_rfl)) (fun _ _ _ h => h) (Or.inl ⟨by rfl, ?_⟩) ?_ ?_
        rotate_left
        ·intro w'
         go_simp
         with_reducible rfl
        rotate_left
        ·simp only [Act.put, List.setIfInBounds_toArray, List.set_cons_zero, List.set_cons_succ, i64_w, i32_w]
         rfl
        refine pure_ (i := 3) (N := some 31) (v := ?_) (a' := ?_) #[true, true, true, true, false, false, false, false, false, false, false, false, false, false, false, false, false, false] rfl rfl (any_of HT_.out (by kernel_rfl)) (fun _ _ _ h => h) (Or.inl ⟨by rfl, ?_⟩) ?_ ?_
        rotate_left
        ·intro w'
         go_simp
         with_reducible rfl
        rotate_left
        ·simp only [Act.put, List.setIfInBounds_toArray, List.set_cons_zero, List.set_cons_succ, i64_w, i32_w]
         rfl
        refine pure_ (i := 4) (N := some 32) (v := ?_) (a' := ?_) #[true, true, true, true, true, false, false, false, false, false, false, false, false, false, false, false, false, false] rfl rfl (any_of HT_.out (by kernel_rfl)) (fun _ _ _ h => h) (Or.inl ⟨by rfl, ?_⟩) ?_ ?_
        rotate_left
        ·intro w'
         go_simp
         with_reducible rfl
        rotate_left
        ·simp only [Act.put, List.setIfInBounds_toArray, List.set_cons_zero, List.set_cons_succ, i64_w, i32_w]
         rfl
        refine pure_ (i := 7) (N := some 35) (v := ?_) (a' := ?_) #[true, true, true, true, true, false, false, true, false, false, false, false, false, false, false, false, false, false] rfl rfl (any_of HT_.out (by kernel_rfl)) (fun _ _ _ h => h) (Or.inl ⟨by rfl, ?_⟩) ?_ ?_
        rotate_left
        ·intro w'
         go_simp
         with_reducible rfl
        rotate_left
        ·simp only [Act.put, List.setIfInBounds_toArray, List.set_cons_zero, List.set_cons_succ, i64_w, i32_w]
         rfl
        refine pure_ (i := 8) (N := some 36) (v := ?_) (a' := ?_) #[true, true, true, true, true, false, false, true, true, false, false, false, false, false, false, false, false, false] rfl rfl (any_of HT_.out (by kernel_rfl)) (fun _ _ _ h => h) (Or.inl ⟨by rfl, ?_⟩) ?_ ?_
        rotate_left
        ·intro w'
         go_simp
         with_reducible rfl
        rotate_left
        ·simp only [Act.put, List.setIfInBounds_toArray, List.set_cons_zero, List.set_cons_succ, i64_w, i32_w]
         rfl
        refine pure_ (i := 9) (N := some 37) (v := ?_) (a' := ?_) #[true, true, true, true, true, false, false, true, true, true, false, false, false, false, false, false, false, false] rfl rfl (any_of HT_.out (by kernel_rfl)) (fun _ _ _ h => h) (Or.inl ⟨by rfl, ?_⟩) ?_ ?_
        rotate_left
        ·intro w'
         go_simp
         with_reducible rfl
        rotate_left
        ·simp only [Act.put, List.setIfInBounds_toArray, List.set_cons_zero, List.set_cons_succ, i64_w, i32_w]
         rfl
        refine pure_ (i := 10) (N := some 38) (v := ?_) (a' := ?_) #[true, true, true, true, true, false, false, true, true, true, true, false, false, false, false, false, false, false] rfl rfl (any_of HT_.out (by kernel_rfl)) (fun _ _ _ h => h) (Or.inl ⟨by rfl, ?_⟩) ?_ ?_
        rotate_left
        ·intro w'
         go_simp
         with_reducible rfl
        rotate_left
        ·simp only [Act.put, List.setIfInBounds_toArray, List.set_cons_zero, List.set_cons_succ, i64_w, i32_w]
         rfl
        refine pure_ (i := 11) (N := some 39) (v := ?_) (a' := ?_) #[true, true, true, true, true, false, false, true, true, true, true, true, false, false, false, false, false, false] rfl rfl (any_of HT_.out (by kernel_rfl)) (fun _ _ _ h => h) (Or.inl ⟨by rfl, ?_⟩) ?_ ?_
        rotate_left
        ·intro w'
         go_simp
         with_reducible rfl
        rotate_left
        ·simp only [Act.put, List.setIfInBounds_toArray, List.set_cons_zero, List.set_cons_succ, i64_w, i32_w]
         rfl
        refine pure_ (i := 12) (N := some 40) (v := ?_) (a' := ?_) #[true, true, true, true, true, false, false, true, true, true, true, true, true, false, false, false, false, false] rfl rfl (any_of HT_.out (by kernel_rfl)) (fun _ _ _ h => h) (Or.inl ⟨by rfl, ?_⟩) ?_ ?_
        rotate_left
        ·intro w'
         go_simp
         with_reducible rfl
        rotate_left
        ·simp only [Act.put, List.setIfInBounds_toArray, List.set_cons_zero, List.set_cons_succ, i64_w, i32_w]
         rfl
        refine pure_ (i := 13) (N := some 41) (v := ?_) (a' := ?_) #[true, true, true, true, true, false, false, true, true, true, true, true, true, true, false, false, false, false] rfl rfl (any_of HT_.out (by kernel_rfl)) (fun _ _ _ h => h) (Or.inl ⟨by rfl, ?_⟩) ?_ ?_
        rotate_left
        ·intro w'
         go_simp
         with_reducible rfl
        rotate_left
        ·simp only [Act.put, List.setIfInBounds_toArray, List.set_cons_zero, List.set_cons_succ, i64_w, i32_w]
         rfl
        refine pure_ (i := 14) (N := some 42) (v := ?_) (a' := ?_) #[true, true, true, true, true, false, false, true, true, true, true, true, true, true, true, false, false, false] rfl rfl (any_of HT_.out (by kernel_rfl)) (fun _ _ _ h => h) (Or.inl ⟨by rfl, ?_⟩) ?_ ?_
        rotate_left
        ·intro w'
         go_simp
         with_reducible rfl
        rotate_left
        ·simp only [Act.put, List.setIfInBounds_toArray, List.set_cons_zero, List.set_cons_succ, i64_w, i32_w]
         rfl
        refine take_ (i := 5) (N := some 33) (v := ?_) (a' := ?_) #[true, true, true, true, true, true, false, true, true, true, true, true, true, true, true, false, false, false] rfl rfl (take_ofW HT_.out HW_.out (by kernel_rfl)) (fun _ _ _ h => h) (Or.inl ⟨by rfl, ?_⟩) hHeld ?_ ?_
        rotate_left
        ·rintro w' ⟨s0, s1⟩
         go_simp
         with_reducible rfl
        rotate_left
        ·simp only [Act.put, List.setIfInBounds_toArray, List.set_cons_zero, List.set_cons_succ, i64_w, i32_w]
         rfl
        refine take_ (i := 15) (N := some 43) (v := ?_) (a' := ?_) #[true, true, true, true, true, true, false, true, true, true, true, true, true, true, true, true, false, false] rfl rfl (take_ofW HT_.out HW_.out (by kernel_rfl)) (fun _ _ _ h => h) (Or.inl ⟨by rfl, ?_⟩) hHeld ?_ ?_
        rotate_left
        ·rintro w' ⟨s0, s1⟩
         go_simp
         with_reducible rfl
        rotate_left
        ·simp only [Act.put, List.setIfInBounds_toArray, List.set_cons_zero, List.set_cons_succ, i64_w, i32_w]
         rfl
        refine one_ (i := 6) (N := some 34) #[true, true, true, true, true, true, true, true, true, true, true, true, true, true, true, true, false, false] rfl rfl (one_of HT_.out (by kernel_rfl)) (by decide) (fun K hK => ?_)
        refine goes_ Tryz.func30 (by kernel_rfl) rfl #[.slice Ao19 t553.length co19, .int .i64 x9_8, .int .i32 (rd l2 x8_1)] (by rfl) rfl rfl sqA ?_
        with_reducible refine (table_Find.calls kj8 _ _ t553 x9_8 (rd l2 x8_1) t557 _ ?side1 ?side2 A13.out).mono ?_
        (case side1 => repeat (first | exact (Kd.S_reads' HO_7.out.1).2.2 | (with_reducible refine Kd.C_alloc ?_ _) | (with_reducible refine Kd.C_drewN ?_ _) | (with_reducible refine Kd.C_drew ?_)))
        (case side2 => exact (Kd.S_reads' HO_7.out.1).2.1)
        rintro e w21 ⟨rfl, hb⟩
        refine ⟨_, rfl, ?_⟩
        have n0_ := Aside0.mk (FewS_below (by (with_reducible repeat (first | apply FewS_alloc | apply FewS_drewN | apply FewS_drew)); exact HO_7.out) hb)
        have n1_ := Aside0.mk (below_step sqB hb)
        clear HO_7
        clear HB
        have HO_7 := n0_
        have HB := n1_
        clear n0_ n1_
        (try clear hb)
        (try clear hb2)
        (try clear hk)
        (try clear hi)
        refine hK.out _ _ ⟨((HB.out.cell (World.block_lt_of_cell? w _ hw556_0)).trans hw556_0), ((HB.out.cell (World.block_lt_of_cell? w _ hw562_0)).trans hw562_0)⟩ (fun hHeld => ?_)
        clear hK K
        refine norm_ (a' := ?_) ?_ ?_
        rotate_left
        ·show Act.put _ (some 34) _ = _
         simp only [Act.put, List.setIfInBounds_toArray, List.set_cons_zero, List.set_cons_succ, i64_w, i32_w]
         rfl
        refine one_ (i := 16) (N := some 44) #[true, true, true, true, true, true, true, true, true, true, true, true, true, true, true, true, true, false] rfl rfl (one_of HT_.out (by kernel_rfl)) (by decide) (fun K hK => ?_)
        refine goes_ Tryz.func31 (by kernel_rfl) rfl #[.slice A0 y558.length c0, .int .i64 x9_8, .int .i32 (rd l2 x8_1)] (by rfl) rfl rfl sqA ?_
        with_reducible refine (endonymref6_Find.calls kj8 _ _ y558 x9_8 (rd l2 x8_1) t563 _ ?side1 ?side2 A16.out).mono ?_
        (case side1 => repeat (first | exact (Kd.C_below HR561.out HB.out) | (with_reducible refine Kd.C_alloc ?_ _) | (with_reducible refine Kd.C_drewN ?_ _) | (with_reducible refine Kd.C_drew ?_)))
        (case side2 => exact HC561.out)
        rintro e w22 ⟨rfl, hb⟩
        refine ⟨_, rfl, ?_⟩
        have n0_ := Aside0.mk (FewS_below (by (with_reducible repeat (first | apply FewS_alloc | apply FewS_drewN | apply FewS_drew)); exact HO_7.out) hb)
        have n1_ := Aside0.mk (below_step sqB hb)
        clear HO_7
        clear HB
        have HO_7 := n0_
        have HB := n1_
        clear n0_ n1_
        (try clear hb)
        (try clear hb2)
        (try clear hk)
        (try clear hi)
        refine hK.out _ _ ⟨((HB.out.cell (World.block_lt_of_cell? w _ hw556_0)).trans hw556_0), ((HB.out.cell (World.block_lt_of_cell? w _ hw562_0)).trans hw562_0)⟩ (fun hHeld => ?_)
        clear hK K
        refine norm_ (a' := ?_) ?_ ?_
        rotate_left
        ·show Act.put _ (some 44) _ = _
         simp only [Act.put, List.setIfInBounds_toArray, List.set_cons_zero, List.set_cons_succ, i64_w, i32_w]
         rfl
        refine pure_ (i := 17) (N := some 45) (v := ?_) (a' := ?_) #[true, true, true, true, true, true, true, true, true, true, true, true, true, true, true, true, true, true] rfl rfl (any_of HT_.out (by kernel_rfl)) (fun _ _ _ h => h) (Or.inl ⟨by rfl, ?_⟩) ?_ ?_
        rotate_left
        ·intro w'
         go_simp
         with_reducible rfl
        rotate_left
        ·simp only [Act.put, List.setIfInBounds_toArray, List.set_cons_zero, List.set_cons_succ, i64_w, i32_w]
         rfl
        refine done_ (done_of HT_.out (by kernel_rfl)) ?_
        try go_wp2
        go_roundg kj8
        case measure => have := HK1.out; have := HJ5.out; have := HJ8.out; omega
        case rel => exact ⟨(wrap64 (x8_1 + 1)), sqE, H', ⟨by have := HK1.out; have := HJ5.out; have := HJ8.out; omega⟩, ⟨by (with_reducible repeat (first | apply FewS_alloc | apply FewS_drewN | apply FewS_drew)); exact HO_7.out⟩, ⟨sqB⟩⟩
       rw [if_neg c17] at H
       have c17b0 := beq_eq_false_iff_ne.mpr c17
       have c17b1 := bne_iff_ne.mpr c17
       obtain rfl := Option.some.inj H
       try go_wp2
       have n0_ := Aside0.mk (FewS_drew HO_7.out)
       have n1_ := Aside0.mk (below_drew1 HB.out)
       clear HO_7
       clear HB
       have HO_7 := n0_
       have HB := n1_
       clear n0_ n1_
       have p556 : 0 ≤ (x8_1 : Int) := sqD
       have q556 : x8_1 < (l2.length : Int) := sqD
       obtain ⟨ad556, e556, hx556_0⟩ := Kd.at_int HR2.out x8_1 p556 q556
       have hw556_0 := hx556_0
       cases e556
       replace hx556_0 := (HB.out.cell (World.block_lt_of_cell? w _ hx556_0)).trans hx556_0
       replace p556 := eq_true p556
       replace q556 := eq_true q556
       obtain ⟨Ao24, co24, eo24⟩ := Kd.S_slice HO_7.out.1
       (first | subst eo24 | (injection eo24 with f1_ f2_ f3_; have f4_ := f1_.symm; have f5_ := f3_.symm; clear f1_ f2_ f3_; subst f4_; subst f5_))
       have q25 : ((t553.length : Int) : Int) ≤ ((l0.length : Int) : Int) := sqD
       obtain ⟨i025, hi025, _, hsz25, _⟩ := info_parts info25
       have hroom25 : l0.length ≤ c0 := HC0.out
       have hC25 : Kd.C k25 _ A0 l0.length l0 := HR0.out
       have hcut25 := cut_to (P := Tryz.prog) 26 25 .i64 Tryz.underlying26 hi025 A0 l0.length c0 (t553.length : Int) sqD q25 hroom25
       have hr25 := Kd.C_take (m := ((t553.length : Int) : Int).toNat) hC25 (by omega)
       have hy25 : y558.length = ((t553.length : Int) : Int).toNat := (by rw [Ny558.out, List.length_take]; omega)
       rw [← Ny558.out] at hr25
       rw [← hy25] at hcut25
       have HR561 := Aside0.mk hr25
       have HC561 := Aside0.mk (show y558.length ≤ c0 from by omega)
       clear hr25 hC25 hroom25 hi025 hsz25
       have KY25 := Aside0.mk hy25
       clear hy25
       replace q25 := eq_true q25
       have p562 : 0 ≤ (x8_1 : Int) := sqD
       have q562 : x8_1 < (l2.length : Int) := sqD
       obtain ⟨ad562, e562, hx562_0⟩ := Kd.at_int HR2.out x8_1 p562 q562
       have hw562_0 := hx562_0
       obtain rfl : ad556 = ad562 := (by injection e562)
       replace hx562_0 := (HB.out.cell (World.block_lt_of_cell? w _ hx562_0)).trans hx562_0
       replace p562 := eq_true p562
       replace q562 := eq_true q562
       refine start_ (n := 18) (S := fun w' => w'.cell? (ad556.add (x8_1).toNat) = some (.int .i32 (rd l2 x8_1)) ∧ w'.cell? (ad556.add (x8_1).toNat) = some (.int .i32 (rd l2 x8_1))) (ds := []) #[false, false, false, false, false, false, false, false, false, false, false, false, false, false, false, false, false, false] (by kernel_rfl) rfl rfl ⟨((HB.out.cell (World.block_lt_of_cell? w _ hw556_0)).trans hw556_0), ((HB.out.cell (World.block_lt_of_cell? w _ hw562_0)).trans hw562_0)⟩ (fun hHeld => ?_); refine with_tabW endonymlaw6_TableFinds.tab8 endonymlaw6_TableFinds.bits8 (fun HT_ HW_ => ?_)
       generalize wc.drew = w23 at HO_7 HB HR561 hx556_0 hx562_0 hHeld ⊢
       refine pure_ (i := 0) (N := some 28) (v := ?_) (a' := ?_) #[true, false, false, false, false, false, false, false, false, false, false, false, false, false, false, false, false, false] rfl rfl (any_of HT_.out (by kernel_rfl)) (fun _ _ _ h => h) (Or.inl ⟨by rfl, ?_⟩) ?_ ?_
       rotate_left
       ·intro w'
        go_simp
        with_reducible rfl
       rotate_left
       ·simp only [Act.put, List.setIfInBounds_toArray, List.set_cons_zero, List.set_cons_succ, i64_w, i32_w]
        rfl
       refine pure_ (i := 1) (N := some 29) (v := ?_) (a' := ?_) #[true, true, false, false, false, false, false, false, false, false, false, false, false, false, false, false, false, false] rfl rfl (any_of HT_.out (by kernel_rfl)) (fun _ _ _ h => h) (Or.inl ⟨by rfl, ?_⟩) ?_ ?_
       rotate_left
       ·intro w'
        go_simp
        with_reducible rfl
       rotate_left
       ·simp only [Act.put, List.setIfInBounds_toArray, List.set_cons_zero, List.set_cons_succ, i64_w, i32_w]
        rfl
       refine pure_ (i := 2) (N := some 30) (v := ?_) (a' := ?_) #[true, true, true, false, false, false, false, false, false, false, false, false, false, false, false, false, false, false] rfl rfl (any_of HT_.out (by kernel_rfl)) (fun _ _ _ h => h) (Or.inl ⟨by rfl, ?_⟩) ?_ ?_
       rotate_left
       ·intro w'
        go_simp
        with_reducible rfl
       rotate_left
       ·simp only [Act.put, List.setIfInBounds_toArray, List.set_cons_zero, List.set_cons_succ, i64_w, i32_w]
        rfl
       refine pure_ (i := 3) (N := some 31) (v := ?_) (a' := ?_) #[true, true, true, true, false, false, false, false, false, false, false, false, false, false, false, false, false, false] rfl rfl (any_of HT_.out (by kernel_rfl)) (fun _ _ _ h => h) (Or.inl ⟨by rfl, ?_⟩) ?_ ?_
       rotate_left
       ·intro w'
        go_simp
        with_reducible rfl
       rotate_left
       ·simp only [Act.put, List.setIfInBounds_toArray, List.set_cons_zero, List.set_cons_succ, i64_w, i32_w]
        rfl
       refine pure_ (i := 4) (N := some 32) (v := ?_) (a' := ?_) #[true, true, true, true, true, false, false, false, false, false, false, false, false, false, false, false, false, false] rfl rfl (any_of HT_.out (by kernel_rfl)) (fun _ _ _ h => h) (Or.inl ⟨by rfl, ?_⟩) ?_ ?_
       rotate_left
       ·intro w'
        go_simp
        with_reducible rfl
       rotate_left
       ·simp only [Act.put, List.setIfInBounds_toArray, List.set_cons_zero, List.set_cons_succ, i64_w, i32_w]
        rfl
       refine pure_ (i := 7) (N := some 35) (v := ?_) (a' := ?_) #[true, true, true, true, true, false, false, true, false, false, false, false, false, false, false, false, false, false] rfl rfl (any_of HT_.out (by kernel_rfl)) (fun _ _ _ h => h) (Or.inl ⟨by rfl, ?_⟩) ?_ ?_
       rotate_left
       ·intro w'
        go_simp
        with_reducible rfl
       rotate_left
       ·simp only [Act.put, List.setIfInBounds_toArray, List.set_cons_zero, List.set_cons_succ, i64_w, i32_w]
        rfl
       refine pure_ (i := 8) (N := some 36) (v := ?_) (a' := ?_) #[true, true, true, true, true, false, false, true, true, false, false, false, false, false, false, false, false, false] rfl rfl (any_of HT_.out (by kernel_rfl)) (fun _ _ _ h => h) (Or.inl ⟨by rfl, ?_⟩) ?_ ?_
       rotate_left
       ·intro w'
        go_simp
        with_reducible rfl
       rotate_left
       ·simp only [Act.put, List.setIfInBounds_toArray, List.set_cons_zero, List.set_cons_succ, i64_w, i32_w]
        rfl
       refine pure_ (i := 9) (N := some 37) (v := ?_) (a' := ?_) #[true, true, true, true, true, false, false, true, true, true, false, false, false, false, false, false, false, false] rfl rfl (any_of HT_.out (by kernel_rfl)) (fun _ _ _ h => h) (Or.inl ⟨by rfl, ?_⟩) ?_ ?_
       rotate_left
       ·intro w'
        go_simp
        with_reducible rfl
       rotate_left
       ·simp only [Act.put, List.setIfInBounds_toArray, List.set_cons_zero, List.set_cons_succ, i64_w, i32_w]
        rfl
       refine pure_ (i := 10) (N := some 38) (v := ?_) (a' := ?_) #[true, true, true, true, true, false, false, true, true, true, true, false, false, false, false, false, false, false] rfl rfl (any_of HT_.out (by kernel_rfl)) (fun _ _ _ h => h) (Or.inl ⟨by rfl, ?_⟩) ?_ ?_
       rotate_left
       ·intro w'
        go_simp
        with_reducible rfl
       rotate_left
       ·simp only [Act.put, List.setIfInBounds_toArray, List.set_cons_zero, List.set_cons_succ, i64_w, i32_w]
        rfl
       refine pure_ (i := 11) (N := some 39) (v := ?_) (a' := ?_) #[true, true, true, true, true, false, false, true, true, true, true, true, false, false, false, false, false, false] rfl rfl (any_of HT_.out (by kernel_rfl)) (fun _ _ _ h => h) (Or.inl ⟨by rfl, ?_⟩) ?_ ?_
       rotate_left
       ·intro w'
        go_simp
        with_reducible rfl
       rotate_left
       ·simp only [Act.put, List.setIfInBounds_toArray, List.set_cons_zero, List.set_cons_succ, i64_w, i32_w]
        rfl
       refine pure_ (i := 12) (N := some 40) (v := ?_) (a' := ?_) #[true, true, true, true, true, false, false, true, true, true, true, true, true, false, false, false, false, false] rfl rfl (any_of HT_.out (by kernel_rfl)) (fun _ _ _ h => h) (Or.inl ⟨by rfl, ?_⟩) ?_ ?_
       rotate_left
       ·intro w'
        go_simp
        with_reducible rfl
       rotate_left
       ·simp only [Act.put, List.setIfInBounds_toArray, List.set_cons_zero, List.set_cons_succ, i64_w, i32_w]
        rfl
       refine pure_ (i := 13) (N := some 41) (v := ?_) (a' := ?_) #[true, true, true, true, true, false, false, true, true, true, true, true, true, true, false, false, false, false] rfl rfl (any_of HT_.out (by kernel_rfl)) (fun _ _ _ h => h) (Or.inl ⟨by rfl, ?_⟩) ?_ ?_
       rotate_left
       ·intro w'
        go_simp
        with_reducible rfl
       rotate_left
       ·simp only [Act.put, List.setIfInBounds_toArray, List.set_cons_zero, List.set_cons_succ, i64_w, i32_w]
        rfl
       refine pure_ (i := 14) (N := some 42) (v := ?_) (a' := ?_) #[true, true, true, true, true, false, false, true, true, true, true, true, true, true, true, false, false, false] rfl rfl (any_of HT_.out (by kernel_rfl)) (fun _ _ _ h => h) (Or.inl ⟨by rfl, ?_⟩) ?_ ?_
       rotate_left
       ·intro w'
        go_simp
        with_reducible rfl
       rotate_left
       ·simp only [Act.put, List.setIfInBounds_toArray, List.set_cons_zero, List.set_cons_succ, i64_w, i32_w]
        rfl
       refine take_ (i := 5) (N := some 33) (v := ?_) (a' := ?_) #[true, true, true, true, true, true, false, true, true, true, true, true, true, true, true, false, false, false] rfl rfl (take_ofW HT_.out HW_.out (by kernel_rfl)) (fun _ _ _ h => h) (Or.inl ⟨by rfl, ?_⟩) hHeld ?_ ?_
       rotate_left
       ·rintro w' ⟨s0, s1⟩
        go_simp
        with_reducible rfl
       rotate_left
       ·simp only [Act.put, List.setIfInBounds_toArray, List.set_cons_zero, List.set_cons_succ, i64_w, i32_w]
        rfl
       refine take_ (i := 15) (N := some 43) (v := ?_) (a' := ?_) #[true, true, true, true, true, true, false, true, true, true, true, true, true, true, true, true, false, false] rfl rfl (take_ofW HT_.out HW_.out (by kernel_rfl)) (fun _ _ _ h => h) (Or.inl ⟨by rfl, ?_⟩) hHeld ?_ ?_
       rotate_left
       ·rintro w' ⟨s0, s1⟩
        go_simp
        with_reducible rfl
       rotate_left
       ·simp only [Act.put, List.setIfInBounds_toArray, List.set_cons_zero, List.set_cons_succ, i64_w, i32_w]
        rfl
       refine one_ (i := 6) (N := some 34) #[true, true, true, true, true, true, true, true, true, true, true, true, true, true, true, true, false, false] rfl rfl (one_of HT_.out (by kernel_rfl)) (by decide) (fun K hK => ?_)
       refine goes_ Tryz.func30 (by kernel_rfl) rfl #[.slice Ao24 t553.length co24, .int .i64 x9_8, .int .i32 (rd l2 x8_1)] (by rfl) rfl rfl sqA ?_
       with_reducible refine (table_Find.calls kj8 _ _ t553 x9_8 (rd l2 x8_1) t557 _ ?side1 ?side2 A13.out).mono ?_
       (case side1 => repeat (first | exact (Kd.S_reads' HO_7.out.1).2.2 | (with_reducible refine Kd.C_alloc ?_ _) | (with_reducible refine Kd.C_drewN ?_ _) | (with_reducible refine Kd.C_drew ?_)))
       (case side2 => exact (Kd.S_reads' HO_7.out.1).2.1)
       rintro e w26 ⟨rfl, hb⟩
       refine ⟨_, rfl, ?_⟩
       have n0_ := Aside0.mk (FewS_below (by (with_reducible repeat (first | apply FewS_alloc | apply FewS_drewN | apply FewS_drew)); exact HO_7.out) hb)
       have n1_ := Aside0.mk (below_step sqB hb)
       clear HO_7
       clear HB
       have HO_7 := n0_
       have HB := n1_
       clear n0_ n1_
       (try clear hb)
       (try clear hb2)
       (try clear hk)
       (try clear hi)
       refine hK.out _ _ ⟨((HB.out.cell (World.block_lt_of_cell? w _ hw556_0)).trans hw556_0), ((HB.out.cell (World.block_lt_of_cell? w _ hw562_0)).trans hw562_0)⟩ (fun hHeld => ?_)
       clear hK K
       refine norm_ (a' := ?_) ?_ ?_
       rotate_left
       ·show Act.put _ (some 34) _ = _
        simp only [Act.put, List.setIfInBounds_toArray, List.set_cons_zero, List.set_cons_succ, i64_w, i32_w]
        rfl
       refine one_ (i := 16) (N := some 44) #[true, true, true, true, true, true, true, true, true, true, true, true, true, true, true, true, true, false] rfl rfl (one_of HT_.out (by kernel_rfl)) (by decide) (fun K hK => ?_)
       refine goes_ Tryz.func31 (by kernel_rfl) rfl #[.slice A0 y558.length c0, .int .i64 x9_8, .int .i32 (rd l2 x8_1)] (by rfl) rfl rfl sqA ?_
       with_reducible refine (endonymref6_Find.calls kj8 _ _ y558 x9_8 (rd l2 x8_1) t563 _ ?side1 ?side2 A16.out).mono ?_
       (case side1 => repeat (first | exact (Kd.C_below HR561.out HB.out) | (with_reducible refine Kd.C_alloc ?_ _) | (with_reducible refine Kd.C_drewN ?_ _) | (with_reducible refine Kd.C_drew ?_)))
       (case side2 => exact HC561.out)
       rintro e w27 ⟨rfl, hb⟩
       refine ⟨_, rfl, ?_⟩
       have n0_ := Aside0.mk (FewS_below (by (with_reducible repeat (first | apply FewS_alloc | apply FewS_drewN | apply FewS_drew)); exact HO_7.out) hb)
       have n1_ := Aside0.mk (below_step sqB hb)
       clear HO_7
       clear HB
       have HO_7 := n0_
       have HB := n1_
       clear n0_ n1_
       (try clear hb)
       (try clear hb2)
       (try clear hk)
       (try clear hi)
       refine hK.out _ _ ⟨((HB.out.cell (World.block_lt_of_cell? w _ hw556_0)).trans hw556_0), ((HB.out.cell (World.block_lt_of_cell? w _ hw562_0)).trans hw562_0)⟩ (fun hHeld => ?_)
       clear hK K
       refine norm_ (a' := ?_) ?_ ?_
       rotate_left
       ·show Act.put _ (some 44) _ = _
        simp only [Act.put, List.setIfInBounds_toArray, List.set_cons_zero, List.set_cons_succ, i64_w, i32_w]
        rfl
       refine pure_ (i := 17) (N := some 45) (v := ?_) (a' := ?_) #[true, true, true, true, true, true, true, true, true, true, true, true, true, true, true, true, true, true] rfl rfl (any_of HT_.out (by kernel_rfl)) (fun _ _ _ h => h) (Or.inl ⟨by rfl, ?_⟩) ?_ ?_
       rotate_left
       ·intro w'
        go_simp
        with_reducible rfl
       rotate_left
       ·simp only [Act.put, List.setIfInBounds_toArray, List.set_cons_zero, List.set_cons_succ, i64_w, i32_w]
        rfl
       refine done_ (done_of HT_.out (by kernel_rfl)) ?_
       try go_wp2
       go_ret
       exact ⟨sqE', sqB⟩
end Go.Proofs.YtnoppeocbfapdaaGreatDoor.T
