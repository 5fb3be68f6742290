import Derived.Test.YtfmjdoofopamkaaGreatDoorWx0
import Derived.Test.YtfmjdoofopamkaaGreatDoorWx14
import Derived.Test.YtfmjdoofopamkaaGreatDoorWx15
import Derived.Test.YtfmjdoofopamkaaGreatDoorWx16
namespace Go.Proofs.YtfmjdoofopamkaaGreatDoor.W
open Go.RowKit Go.Proofs.YtfmjdoofopamkaaGreatDoorW.PrintWords Go.Proofs.YtfmjdoofopamkaaGreatDoorW.PrintLast Go.Proofs.YtfmjdoofopamkaaGreatDoorW.PrintMore
set_option maxHeartbeats 8000000
set_option maxRecDepth 100000
attribute [local go_sem] max2_int min2_int max_two min_two max_three min_three max_four min_four
set_option linter.unusedVariables false
set_option linter.unusedSimpArgs false
mutual
def endonymref2_Round.l0 : Nat → List Int → List Int → Int → Int → Int → Int → Int → Option (List Int × Int × Bool)
 | 0, _, _, _, _, _, _, _ => none
 | k + 1, x0, x1, x2, x3, x4, x13, x14 => if x14 < 3 then (if (mx x13 x3) ≥ 0 then ((endonymref2_Left.f k x1 (mx x13 x3)).bind fun t596 => (endonymref2_Round.j1 k x0 x1 x2 x3 x4 (mx x13 x3) x14 x0 t596)) else ((endonymref2_Left.f k x0 (wrap64 (-(mx x13 x3)))).bind fun t599 => (endonymref2_Round.j1 k x0 x1 x2 x3 x4 (mx x13 x3) x14 t599 x1))) else (some (([] : List Int), 0, false))
def endonymref2_Round.j1 : Nat → List Int → List Int → Int → Int → Int → Int → Int → List Int → List Int → Option (List Int × Int × Bool)
 | 0, _, _, _, _, _, _, _, _, _ => none
 | k + 1, x0, x1, x2, x3, x4, x13, x14, x15, x16 => (endonymref2_Over.f k x15 x16).bind fun bt602 => ((endonymref2_Times.f k bt602.2 2 0).bind fun t608 => ((endonymref2_Cmp.f k t608 x16).bind fun t611 => (if t611 > 0 then (endonymref2_Round.j2 k x0 x1 x2 x3 x4 x13 x14 bt602.1 true) else (if t611 = 0 then ((endonymref2_Bit.f bt602.1 0).bind fun t612 => (endonymref2_Round.j2 k x0 x1 x2 x3 x4 x13 x14 bt602.1 t612)) else (endonymref2_Round.j2 k x0 x1 x2 x3 x4 x13 x14 bt602.1 false)))))
def endonymref2_Round.j2 : Nat → List Int → List Int → Int → Int → Int → Int → Int → List Int → Bool → Option (List Int × Int × Bool)
 | 0, _, _, _, _, _, _, _, _, _ => none
 | k + 1, x0, x1, x2, x3, x4, x13, x14, x17, x68 => if x68 = true then ((endonymref2_Of.f k 1).bind fun t613 => ((endonymref2_Plus.f k x17 t613).bind fun t616 => (endonymref2_Round.j3 k x0 x1 x2 x3 x4 x13 x14 t616))) else (endonymref2_Round.j3 k x0 x1 x2 x3 x4 x13 x14 x17)
def endonymref2_Round.j3 : Nat → List Int → List Int → Int → Int → Int → Int → Int → List Int → Option (List Int × Int × Bool)
 | 0, _, _, _, _, _, _, _, _ => none
 | k + 1, x0, x1, x2, x3, x4, x13, x14, x17 => (endonymref2_Length.f k x17).bind fun t619 => (if t619 ≤ (wrap64 (x2 + 1)) then (endonymref2_Round.j4 k x0 x1 x2 x3 x4 x13 x14 x17 true) else ((endonymref2_Length.f k x17).bind fun t620 => (if t620 = (wrap64 (x2 + 2)) then ((endonymref2_Of.f k 1).bind fun t621 => ((endonymref2_Left.f k t621 (wrap64 (x2 + 1))).bind fun t624 => ((endonymref2_Cmp.f k x17 t624).bind fun t627 => (endonymref2_Round.j4 k x0 x1 x2 x3 x4 x13 x14 x17 (t627 == 0))))) else (endonymref2_Round.j4 k x0 x1 x2 x3 x4 x13 x14 x17 false))))
def endonymref2_Round.j4 : Nat → List Int → List Int → Int → Int → Int → Int → Int → List Int → Bool → Option (List Int × Int × Bool)
 | 0, _, _, _, _, _, _, _, _, _ => none
 | k + 1, x0, x1, x2, x3, x4, x13, x14, x17, x92 => if x92 = true then ((endonymref2_Length.f k x17).bind fun t628 => (if (wrap64 (x13 + t628)) > x4 then (some (([] : List Int), 0, false)) else (some (x17, x13, true)))) else (endonymref2_Round.l0 k x0 x1 x2 x3 x4 (wrap64 (x13 + 1)) (wrap64 (x14 + 1)))
end
def endonymref2_Round.f (k : Nat) (l0 : List Int) (l1 : List Int) (a2 : Int) (a3 : Int) (a4 : Int) : Option (List Int × Int × Bool) := if (l0.length : Int) = 0 then (some (([] : List Int), 0, true)) else ((endonymref2_Length.f k l0).bind fun t594 => ((endonymref2_Length.f k l1).bind fun t595 => (endonymref2_Round.l0 k l0 l1 a2 a3 a4 (wrap64 ((wrap64 ((wrap64 (t594 - t595)) - a2)) - 1)) 0)))
theorem endonymref2_Round.mono_l : ∀ k, (∀ y0 y1 y2 y3 y4 y5 y6, LeO (endonymref2_Round.l0 k y0 y1 y2 y3 y4 y5 y6) (endonymref2_Round.l0 (k + 1) y0 y1 y2 y3 y4 y5 y6)) ∧ (∀ y0 y1 y2 y3 y4 y5 y6 y7 y8, LeO (endonymref2_Round.j1 k y0 y1 y2 y3 y4 y5 y6 y7 y8) (endonymref2_Round.j1 (k + 1) y0 y1 y2 y3 y4 y5 y6 y7 y8)) ∧ (∀ y0 y1 y2 y3 y4 y5 y6 y7 y8, LeO (endonymref2_Round.j2 k y0 y1 y2 y3 y4 y5 y6 y7 y8) (endonymref2_Round.j2 (k + 1) y0 y1 y2 y3 y4 y5 y6 y7 y8)) ∧ (∀ y0 y1 y2 y3 y4 y5 y6 y7, LeO (endonymref2_Round.j3 k y0 y1 y2 y3 y4 y5 y6 y7) (endonymref2_Round.j3 (k + 1) y0 y1 y2 y3 y4 y5 y6 y7)) ∧ (∀ y0 y1 y2 y3 y4 y5 y6 y7 y8, LeO (endonymref2_Round.j4 k y0 y1 y2 y3 y4 y5 y6 y7 y8) (endonymref2_Round.j4 (k + 1) y0 y1 y2 y3 y4 y5 y6 y7 y8))
 | 0 => ⟨fun _ _ _ _ _ _ _ r h => by simp [endonymref2_Round.l0] at h, fun _ _ _ _ _ _ _ _ _ r h => by simp [endonymref2_Round.j1] at h, fun _ _ _ _ _ _ _ _ _ r h => by simp [endonymref2_Round.j2] at h, fun _ _ _ _ _ _ _ _ r h => by simp [endonymref2_Round.j3] at h, fun _ _ _ _ _ _ _ _ _ r h => by simp [endonymref2_Round.j4] at h⟩
 | k + 1 => by
  obtain ⟨ih0, ih1, ih2, ih3, ih4⟩ := endonymref2_Round.mono_l k
  refine ⟨?_, ?_, ?_, ?_, ?_⟩
  ·intro y0 y1 y2 y3 y4 y5 y6
   unfold endonymref2_Round.l0
   repeat' first | (with_reducible first | apply ih0 | apply ih1 | apply ih2 | apply ih3 | apply ih4 | apply endonymref2_Cmp.mono | apply endonymref2_Left.mono | apply endonymref2_Length.mono | apply endonymref2_Of.mono | apply endonymref2_Over.mono | apply endonymref2_Plus.mono | apply endonymref2_Times.mono | apply LeO.refl | apply LeO.none | refine LeO.ite ?_ ?_ | refine LeO.bind ?_ (fun _ => ?_)) | apply LeO.none | refine LeO.ite ?_ ?_ | refine LeO.bind ?_ (fun _ => ?_)
  ·intro y0 y1 y2 y3 y4 y5 y6 y7 y8
   unfold endonymref2_Round.j1
   repeat' first | (with_reducible first | apply ih0 | apply ih1 | apply ih2 | apply ih3 | apply ih4 | apply endonymref2_Cmp.mono | apply endonymref2_Left.mono | apply endonymref2_Length.mono | apply endonymref2_Of.mono | apply endonymref2_Over.mono | apply endonymref2_Plus.mono | apply endonymref2_Times.mono | apply LeO.refl | apply LeO.none | refine LeO.ite ?_ ?_ | refine LeO.bind ?_ (fun _ => ?_)) | apply LeO.none | refine LeO.ite ?_ ?_ | refine LeO.bind ?_ (fun _ => ?_)
  ·intro y0 y1 y2 y3 y4 y5 y6 y7 y8
   unfold endonymref2_Round.j2
   repeat' first | (with_reducible first | apply ih0 | apply ih1 | apply ih2 | apply ih3 | apply ih4 | apply endonymref2_Cmp.mono | apply endonymref2_Left.mono | apply endonymref2_Length.mono | apply endonymref2_Of.mono | apply endonymref2_Over.mono | apply endonymref2_Plus.mono | apply endonymref2_Times.mono | apply LeO.refl | apply LeO.none | refine LeO.ite ?_ ?_ | refine LeO.bind ?_ (fun _ => ?_)) | apply LeO.none | refine LeO.ite ?_ ?_ | refine LeO.bind ?_ (fun _ => ?_)
  ·intro y0 y1 y2 y3 y4 y5 y6 y7
   unfold endonymref2_Round.j3
   repeat' first | (with_reducible first | apply ih0 | apply ih1 | apply ih2 | apply ih3 | apply ih4 | apply endonymref2_Cmp.mono | apply endonymref2_Left.mono | apply endonymref2_Length.mono | apply endonymref2_Of.mono | apply endonymref2_Over.mono | apply endonymref2_Plus.mono | apply endonymref2_Times.mono | apply LeO.refl | apply LeO.none | refine LeO.ite ?_ ?_ | refine LeO.bind ?_ (fun _ => ?_)) | apply LeO.none | refine LeO.ite ?_ ?_ | refine LeO.bind ?_ (fun _ => ?_)
  intro y0 y1 y2 y3 y4 y5 y6 y7 y8
  unfold endonymref2_Round.j4
  repeat' first | (with_reducible first | apply ih0 | apply ih1 | apply ih2 | apply ih3 | apply ih4 | apply endonymref2_Cmp.mono | apply endonymref2_Left.mono | apply endonymref2_Length.mono | apply endonymref2_Of.mono | apply endonymref2_Over.mono | apply endonymref2_Plus.mono | apply endonymref2_Times.mono | apply LeO.refl | apply LeO.none | refine LeO.ite ?_ ?_ | refine LeO.bind ?_ (fun _ => ?_)) | apply LeO.none | refine LeO.ite ?_ ?_ | refine LeO.bind ?_ (fun _ => ?_)
theorem endonymref2_Round.mono : ∀ a0 a1 a2 a3 a4 k, LeO (endonymref2_Round.f k a0 a1 a2 a3 a4) (endonymref2_Round.f (k + 1) a0 a1 a2 a3 a4) := by
 intro a0 a1 a2 a3 a4 k
 obtain ⟨ih0, ih1, ih2, ih3, ih4⟩ := endonymref2_Round.mono_l k
 unfold endonymref2_Round.f
 repeat' first | (with_reducible first | apply ih0 | apply ih1 | apply ih2 | apply ih3 | apply ih4 | apply endonymref2_Cmp.mono | apply endonymref2_Left.mono | apply endonymref2_Length.mono | apply endonymref2_Of.mono | apply endonymref2_Over.mono | apply endonymref2_Plus.mono | apply endonymref2_Times.mono | apply LeO.refl | apply LeO.none | refine LeO.ite ?_ ?_ | refine LeO.bind ?_ (fun _ => ?_)) | apply LeO.none | refine LeO.ite ?_ ?_ | refine LeO.bind ?_ (fun _ => ?_)
theorem endonymref2_Round.calls (k : Nat) (P0_ : Nat → Prop) (A0 : Option Addr) (c0 : Nat) (l0 : List Int) (P1_ : Nat → Prop) (A1 : Option Addr) (c1 : Nat) (l1 : List Int) (a2 : Int) (a3 : Int) (a4 : Int) (r1 : List Int) (r2 : Int) (r3 : Bool) (w : World) (hs0 : Kd.V (Kd.int .u32) 83 w w.heap.size (fun k_ => P0_ k_) (.slice A0 l0.length c0) l0) (hs1 : Kd.V (Kd.int .u32) 83 w w.heap.size (fun k_ => P1_ k_) (.slice A1 l1.length c1) l1) (h : endonymref2_Round.f k l0 l1 a2 a3 a4 = some (r1, r2, r3)) :
  Calls Tryz.prog 90 #[.slice A0 l0.length c0, .slice A1 l1.length c1, .int .i64 a2, .int .i64 a3, .int .i64 a4] w fun e w' => ∃ v0_ : Value, e = .returned (.tuple #[v0_, .int .i64 r2, .bool r3]) ∧ Kd.R (Kd.int .u32) 83 w' w.heap.size (fun k_ => (w.heap.size ≤ k_)) v0_ r1 ∧ Below w.heap.size w w' := by
 have HO0 := Aside0.mk (show Kd.V (Kd.int .u32) 83 w w.heap.size (fun k_ => ((P0_ k_ ∨ P1_ k_) ∨ w.heap.size ≤ k_)) (.slice A0 l0.length c0) l0 from Kd.V_mono hs0 (fun k_ hk => .inl (.inl hk)))
 have HO1 := Aside0.mk (show Kd.V (Kd.int .u32) 83 w w.heap.size (fun k_ => ((P0_ k_ ∨ P1_ k_) ∨ w.heap.size ≤ k_)) (.slice A1 l1.length c1) l1 from Kd.V_mono hs1 (fun k_ hk => .inl (.inr hk)))
 have HB := Aside0.mk (Below.refl w.heap.size w)
 have H : (if (l0.length : Int) = 0 then (some (([] : List Int), 0, true)) else ((endonymref2_Length.f k l0).bind fun t594 => ((endonymref2_Length.f k l1).bind fun t595 => (endonymref2_Round.l0 k l0 l1 a2 a3 a4 (wrap64 ((wrap64 ((wrap64 (t594 - t595)) - a2)) - 1)) 0)))) = some (r1, r2, r3) := h
 clear h
 by_cases c6 : (l0.length : Int) = 0
 ·rw [if_pos c6] at H
  have c6b0 := beq_iff_eq.mpr c6
  have c6b1 := bne_eq_false_iff_eq.mpr c6
  clear c6
  simp only [Option.some.injEq, Prod.mk.injEq] at H
  obtain ⟨rfl, rfl, rfl⟩ := H
  go_enter Tryz.func90, Tryz.ntmps90
  go_wp2
  go_ret3
  exact ⟨_, sqE', by first | exact Kd.R_nil _ _ _ _ _ | exact Kd.N_nil _ _ _ _ _ | exact Kd.V_nil _ _ _ _ _ | exact Kd.Q_nil _ _ _ _ _ | exact Kd.S_nil _ _ _ _ _, sqB⟩
 rw [if_neg c6] at H
 have c6b0 := beq_eq_false_iff_ne.mpr c6
 have c6b1 := bne_iff_ne.mpr c6
 have c6b2 : ¬ (l0 = []) := fun h_ => c6 (by rw [h_]; rfl)
 obtain ⟨t594, A7, H⟩ := sqO H
 try dsimp only at H
 obtain ⟨t595, A8, H⟩ := sqO H
 try dsimp only at H
 have H' := Aside0.mk H
 clear H
 go_enter Tryz.func90, Tryz.ntmps90
 go_wp2_with (first | ((with_reducible refine gate_callee (f := 75) rfl ?_); refine goesL_ (some 24) rfl rfl Tryz.func75 (by kernel_rfl) rfl #[.slice A0 l0.length c0] rfl sqA ?_; (with_reducible refine (endonymref2_Length.calls k _ _ l0 t594 _ ?side1 ?side2 A7.out).mono ?_); (case side1 => repeat (first | exact (Kd.V_reads' HO0.out).2.2 | (with_reducible refine Kd.C_alloc ?_ _) | (with_reducible refine Kd.C_drewN ?_ _) | (with_reducible refine Kd.C_drew ?_))); (case side2 => exact (Kd.V_reads' HO0.out).2.1); rintro e w' ⟨rfl, ⟨nd, rfl⟩⟩; refine ⟨_, rfl, ?_⟩) | ((with_reducible refine gate_callee (f := 75) rfl ?_); refine goesL_ (some 26) rfl rfl Tryz.func75 (by kernel_rfl) rfl #[.slice A1 l1.length c1] rfl sqA ?_; (with_reducible refine (endonymref2_Length.calls k _ _ l1 t595 _ ?side1 ?side2 A8.out).mono ?_); (case side1 => repeat (first | exact (Kd.V_reads' HO1.out).2.2 | (with_reducible refine Kd.C_alloc ?_ _) | (with_reducible refine Kd.C_drewN ?_ _) | (with_reducible refine Kd.C_drew ?_))); (case side2 => exact (Kd.V_reads' HO1.out).2.1); rintro e w' ⟨rfl, ⟨nd, rfl⟩⟩; refine ⟨_, rfl, ?_⟩))
 try simp only [Act.put, List.setIfInBounds_toArray, List.set_cons_zero, List.set_cons_succ]
 go_loopg [13, 14] k (fun kq v13 v14 w' => ∃ (x13_1 : Int) (x14_1 : Int), v13 = .int .i64 x13_1 ∧ v14 = .int .i64 x14_1 ∧ Aside0 (endonymref2_Round.l0 kq l0 l1 a2 a3 a4 x13_1 x14_1 = some (r1, r2, r3)) ∧ Aside0 (kq ≤ k) ∧ Aside0 (Kd.V (Kd.int .u32) 83 w' w.heap.size (fun k_ => ((P0_ k_ ∨ P1_ k_) ∨ w.heap.size ≤ k_)) (.slice A0 l0.length c0) l0) ∧ Aside0 (Kd.V (Kd.int .u32) 83 w' w.heap.size (fun k_ => ((P0_ k_ ∨ P1_ k_) ∨ w.heap.size ≤ k_)) (.slice A1 l1.length c1) l1) ∧ Aside0 (Below w.heap.size w w'))
 case atStart => exact ⟨(wrap64 ((wrap64 ((wrap64 (t594 - t595)) - a2)) - 1)), (0), sqE, sqE, H', ⟨Nat.le_refl _⟩, ⟨sqV HO0.out⟩, ⟨sqV HO1.out⟩, ⟨sqB⟩⟩
 case round =>
  clear H'
  try clear c1
  try clear p2
  try clear c6
  try clear c6b0
  try clear c6b1
  try clear c6b2
  try clear p6
  try clear c7
  obtain ⟨x13_1, x14_1, rfl, rfl, HA, HK1, HO_0, HO_1, HB⟩ := hrel
  cases gk with
  | zero => exact absurd HA.out (by simp [endonymref2_Round.l0])
  | succ k1 =>
   have H := HA.out
   clear HA
   simp only [endonymref2_Round.l0] at H
   by_cases c9 : x14_1 < 3
   case neg =>
    rw [if_neg c9] at H
    have c9b0 := decide_eq_false c9
    clear c9
    simp only [Option.some.injEq, Prod.mk.injEq] at H
    obtain ⟨rfl, rfl, rfl⟩ := H
    go_wp2
    go_ret3
    exact ⟨_, sqE', by first | exact Kd.R_nil _ _ _ _ _ | exact Kd.N_nil _ _ _ _ _ | exact Kd.V_nil _ _ _ _ _ | exact Kd.Q_nil _ _ _ _ _ | exact Kd.S_nil _ _ _ _ _, sqB⟩
   rw [if_pos c9] at H
   have c9b0 := decide_eq_true c9
   clear c9
   obtain ⟨ji10, hji10⟩ : ∃ j_ : Int, (mx x13_1 a3) = j_ := ⟨_, rfl⟩
   replace H : (if (ji10) ≥ 0 then ((endonymref2_Left.f k1 l1 (ji10)).bind fun t596 => (endonymref2_Round.j1 k1 l0 l1 a2 a3 a4 ji10 x14_1 l0 t596)) else ((endonymref2_Left.f k1 l0 (wrap64 (-(ji10)))).bind fun t599 => (endonymref2_Round.j1 k1 l0 l1 a2 a3 a4 ji10 x14_1 t599 l1))) = some (r1, r2, r3) := by first | (rw [hji10] at H; exact H) | (simp only [hji10] at H ⊢; exact H)
   have hji10_ : (if x13_1 < a3 then a3 else x13_1) = ji10 := hji10
   have HC11 := Aside0.mk H
   clear H
   go_upto_if 41 with (fail)
   go_cut [15, 16] (fun v15 v16 wc => ∃ (kq : Nat) (x15_10 : List Int) (x16_10 : List Int), Aside0 (endonymref2_Round.j1 kq l0 l1 a2 a3 a4 ji10 x14_1 x15_10 x16_10 = some (r1, r2, r3)) ∧ Aside0 (kq ≤ k1) ∧ Aside0 (Kd.V (Kd.int .u32) 83 wc w.heap.size (fun k_ => ((P0_ k_ ∨ P1_ k_) ∨ w.heap.size ≤ k_)) (.slice A0 l0.length c0) l0) ∧ Aside0 (Kd.V (Kd.int .u32) 83 wc w.heap.size (fun k_ => ((P0_ k_ ∨ P1_ k_) ∨ w.heap.size ≤ k_)) (.slice A1 l1.length c1) l1) ∧ Aside0 (Kd.V (Kd.int .u32) 83 wc w.heap.size (fun k_ => ((P0_ k_ ∨ P1_ k_) ∨ w.heap.size ≤ k_)) v15 x15_10) ∧ Aside0 (Kd.V (Kd.int .u32) 83 wc w.heap.size (fun k_ => ((P0_ k_ ∨ P1_ k_) ∨ w.heap.size ≤ k_)) v16 x16_10) ∧ Aside0 (Below w.heap.size w wc))
   case first =>
    have H := HC11.out
    clear HC11
    by_cases c12 : (ji10) ≥ 0
    ·rw [if_pos c12] at H
     have c12b0 := decide_eq_true c12
     clear c12
     (first | rw [c12b0] | (simp only [i64_w, i32_w]; rw [c12b0]) | skip)
     obtain ⟨t596, A13, H⟩ := sqO H
     try dsimp only at H
     have H' := Aside0.mk H
     clear H
     go_wp2_with (first | ((with_reducible refine gate_callee (f := 74) rfl ?_); refine goesL_ (some 44) rfl rfl Tryz.func74 (by kernel_rfl) rfl #[.slice A1 l1.length c1, .int .i64 ji10] rfl (by (try simp only [List.map_toArray, List.map_cons, List.map_nil]); first | done | (simp only [hji10]; rfl) | rfl | (simp only [List.length_drop, List.length_take]; rfl)) ?_; (with_reducible refine (endonymref2_Left.calls k1 _ _ l1 ji10 t596 _ ?side1 ?side2 A13.out).mono ?_); (case side1 => repeat (first | exact (Kd.V_reads' HO_1.out).2.2 | (with_reducible refine Kd.C_alloc ?_ _) | (with_reducible refine Kd.C_drewN ?_ _) | (with_reducible refine Kd.C_drew ?_))); (case side2 => exact (Kd.V_reads' HO_1.out).2.1); rintro e w14 ⟨v597, rfl, ho0, hb⟩; refine ⟨_, rfl, ?_⟩; have n0_ := Aside0.mk (Kd.V_elder' (sqV HO_0.out) (Kd.R_base ho0) hb); have n1_ := Aside0.mk (Kd.V_elder' (sqV HO_1.out) (Kd.R_base ho0) hb); have n2_ := Aside0.mk (Kd.R_lower (Kd.R_newM (M := fun k_ => (w.heap.size ≤ k_)) ho0 (below_size sqB) (fun k_ h_ => h_)) (below_size sqB)); have n3_ := Aside0.mk (below_step sqB hb); clear HO_0; clear HO_1; clear HB; have HO_0 := n0_; have HO_1 := n1_; have HO598 := n2_; have HB := n3_; clear n0_ n1_ n2_ n3_; (try clear hb); (try clear hb2); (try clear hk); (try clear hi); (try clear ho0)))
     go_meet
     case rel => exact ⟨_, (l0), (t596), H', ⟨by have := HK1.out; first | omega | exact Nat.le_refl _⟩, ⟨by (with_reducible repeat (first | apply Kd.V_alloc | apply Kd.V_drewN | apply Kd.V_drew)); exact Kd.V_mono HO_0.out (fun _ hk => hk.1)⟩, ⟨by (with_reducible repeat (first | apply Kd.V_alloc | apply Kd.V_drewN | apply Kd.V_drew)); exact Kd.V_mono HO_1.out (fun _ hk => hk.1)⟩, ⟨by (with_reducible repeat (first | apply Kd.V_alloc | apply Kd.V_drewN | apply Kd.V_drew)); exact Kd.V_mono HO_0.out (fun _ hk => hk.1)⟩, ⟨Kd.V_mono (Kd.R_V (by (with_reducible repeat (first | apply Kd.R_alloc | apply Kd.R_drewN | apply Kd.R_drew)); exact Kd.R_mono HO598.out (fun _ hk => hk.1))) (fun k_ hk => by first | exact ⟨(.inr (hk.1)), hk.2⟩ | exact (.inr (hk)))⟩, ⟨sqB⟩⟩
    rw [if_neg c12] at H
    have c12b0 := decide_eq_false c12
    clear c12
    (first | rw [c12b0] | (simp only [i64_w, i32_w]; rw [c12b0]) | skip)
    obtain ⟨t599, A15, H⟩ := sqO H
    try dsimp only at H
    have H' := Aside0.mk H
    clear H
    go_wp2_with (first | ((with_reducible refine gate_callee (f := 74) rfl ?_); refine goesL_ (some 48) rfl rfl Tryz.func74 (by kernel_rfl) rfl #[.slice A0 l0.length c0, .int .i64 (wrap64 (-(ji10)))] rfl (by (try simp only [List.map_toArray, List.map_cons, List.map_nil]); first | done | (simp only [hji10]; rfl) | rfl | (simp only [List.length_drop, List.length_take]; rfl)) ?_; (with_reducible refine (endonymref2_Left.calls k1 _ _ l0 (wrap64 (-(ji10))) t599 _ ?side1 ?side2 A15.out).mono ?_); (case side1 => repeat (first | exact (Kd.V_reads' HO_0.out).2.2 | (with_reducible refine Kd.C_alloc ?_ _) | (with_reducible refine Kd.C_drewN ?_ _) | (with_reducible refine Kd.C_drew ?_))); (case side2 => exact (Kd.V_reads' HO_0.out).2.1); rintro e w16 ⟨v600, rfl, ho0, hb⟩; refine ⟨_, rfl, ?_⟩; have n0_ := Aside0.mk (Kd.V_elder' (sqV HO_0.out) (Kd.R_base ho0) hb); have n1_ := Aside0.mk (Kd.V_elder' (sqV HO_1.out) (Kd.R_base ho0) hb); have n2_ := Aside0.mk (Kd.R_lower (Kd.R_newM (M := fun k_ => (w.heap.size ≤ k_)) ho0 (below_size sqB) (fun k_ h_ => h_)) (below_size sqB)); have n3_ := Aside0.mk (below_step sqB hb); clear HO_0; clear HO_1; clear HB; have HO_0 := n0_; have HO_1 := n1_; have HO601 := n2_; have HB := n3_; clear n0_ n1_ n2_ n3_; (try clear hb); (try clear hb2); (try clear hk); (try clear hi); (try clear ho0)))
    go_meet
    case rel => exact ⟨_, (t599), (l1), H', ⟨by have := HK1.out; first | omega | exact Nat.le_refl _⟩, ⟨by (with_reducible repeat (first | apply Kd.V_alloc | apply Kd.V_drewN | apply Kd.V_drew)); exact Kd.V_mono HO_0.out (fun _ hk => hk.1)⟩, ⟨by (with_reducible repeat (first | apply Kd.V_alloc | apply Kd.V_drewN | apply Kd.V_drew)); exact Kd.V_mono HO_1.out (fun _ hk => hk.1)⟩, ⟨Kd.V_mono (Kd.R_V (by (with_reducible repeat (first | apply Kd.R_alloc | apply Kd.R_drewN | apply Kd.R_drew)); exact Kd.R_mono HO601.out (fun _ hk => hk.1))) (fun k_ hk => by first | exact ⟨(.inr (hk.1)), hk.2⟩ | exact (.inr (hk)))⟩, ⟨by (with_reducible repeat (first | apply Kd.V_alloc | apply Kd.V_drewN | apply Kd.V_drew)); exact Kd.V_mono HO_1.out (fun _ hk => hk.1)⟩, ⟨sqB⟩⟩
   case rest =>
    clear HC11
    try clear c1
    try clear p2
    try clear c6
    try clear c6b0
    try clear c6b1
    try clear c6b2
    try clear p6
    try clear c7
    try clear c9
    try clear c9b0
    try clear c12
    try clear c12b0
    try clear p2
    try clear p6
    obtain ⟨kq, x15_10, x16_10, HA, HJ10, HO_0, HO_1, HO_15, HO_16, HB⟩ := hcut
    cases kq with
    | zero => exact absurd HA.out (by simp [endonymref2_Round.j1])
    | succ kj10 =>
     have H := HA.out
     clear HA
     simp only [endonymref2_Round.j1] at H
     obtain ⟨⟨t602, t605⟩, A17, H⟩ := sqO H
     try dsimp only at H
     obtain ⟨t608, A18, H⟩ := sqO H
     try dsimp only at H
     obtain ⟨t611, A19, H⟩ := sqO H
     try dsimp only at H
     have HC20 := Aside0.mk H
     clear H
     obtain ⟨Ao21, co21, eo21⟩ := Kd.V_slice HO_15.out
     subst eo21
     obtain ⟨Ao22, co22, eo22⟩ := Kd.V_slice HO_16.out
     subst eo22
     go_upto_region 14 with (first | ((with_reducible refine gate_callee (f := 77) rfl ?_); refine goesL_ (some 52) rfl rfl Tryz.func77 (by kernel_rfl) rfl #[.slice Ao21 x15_10.length co21, .slice Ao22 x16_10.length co22] rfl sqA ?_; (with_reducible refine (endonymref2_Over.calls kj10 (fun k_ => ((P0_ k_ ∨ P1_ k_) ∨ w.heap.size ≤ k_)) _ _ x15_10 _ _ x16_10 t602 t605 _ ?side1 ?side2 ?side3 A17.out).mono ?_); (case side1 => exact HO_15.out); (case side2 => repeat (first | exact (Kd.V_reads' HO_16.out).2.2 | (with_reducible refine Kd.C_alloc ?_ _) | (with_reducible refine Kd.C_drewN ?_ _) | (with_reducible refine Kd.C_drew ?_))); (case side3 => exact (Kd.V_reads' HO_16.out).2.1); rintro e w23 ⟨v603, v606, rfl, ho0, ho1, hb⟩; refine ⟨_, rfl, ?_⟩; have n0_ := Aside0.mk (Kd.V_elder' (sqV HO_0.out) (Kd.R_base ho0) hb); have n1_ := Aside0.mk (Kd.V_elder' (sqV HO_1.out) (Kd.R_base ho0) hb); have n2_ := Aside0.mk (Kd.V_elder' (sqV HO_15.out) (Kd.R_base ho0) hb); have n3_ := Aside0.mk (Kd.V_elder' (sqV HO_16.out) (Kd.R_base ho0) hb); have n4_ := Aside0.mk (Kd.R_lower (Kd.R_newM (M := fun k_ => (w.heap.size ≤ k_)) (Kd.R_mono (ok' := fun k_ => True) ho0 (fun _ hk_ => trivial)) (below_size sqB) (fun k_ h_ => h_)) (below_size sqB)); have n5_ := Aside0.mk (Kd.V_lower (Kd.V_mono (ok' := fun k_ => ((P0_ k_ ∨ P1_ k_) ∨ w.heap.size ≤ k_) ∧ some k_ ≠ (v603 : Value).ownBlock) ho1 (fun k_ hk_ => ⟨Or.elim hk_.1 (fun hs_ => hs_) (fun hn_ => (.inr (Nat.le_trans (below_size sqB) hn_))), hk_.2⟩)) (below_size sqB)); have n6_ := Aside0.mk (below_step sqB hb); clear HO_0; clear HO_1; clear HO_15; clear HO_16; clear HB; have HO_0 := n0_; have HO_1 := n1_; have HO_15 := n2_; have HO_16 := n3_; have HO604 := n4_; have HO607 := n5_; have HB := n6_; clear n0_ n1_ n2_ n3_ n4_ n5_ n6_; (try clear hb); (try clear hb2); (try clear hk); (try clear hi); (try clear ho0); (try clear ho1); obtain ⟨Ao24, co24, eo24⟩ := Kd.V_slice HO607.out; subst eo24) | ((with_reducible refine gate_callee (f := 61) rfl ?_); refine goesL_ (some 56) rfl rfl Tryz.func61 (by kernel_rfl) rfl #[.slice Ao24 t605.length co24, .int .u32 2, .int .u32 0] rfl sqA ?_; (with_reducible refine (endonymref2_Times.calls kj10 _ _ t605 2 0 t608 _ ?side1 ?side2 A18.out).mono ?_); (case side1 => repeat (first | exact (Kd.V_reads' HO607.out).2.2 | (with_reducible refine Kd.C_alloc ?_ _) | (with_reducible refine Kd.C_drewN ?_ _) | (with_reducible refine Kd.C_drew ?_))); (case side2 => exact (Kd.V_reads' HO607.out).2.1); rintro e w25 ⟨v609, rfl, ho0, hb⟩; refine ⟨_, rfl, ?_⟩; have n0_ := Aside0.mk (Kd.V_elder' (sqV HO_0.out) (Kd.R_base ho0) hb); have n1_ := Aside0.mk (Kd.V_elder' (sqV HO_1.out) (Kd.R_base ho0) hb); have n2_ := Aside0.mk (Kd.V_elder' (sqV HO_15.out) (Kd.R_base ho0) hb); have n3_ := Aside0.mk (Kd.V_elder' (sqV HO_16.out) (Kd.R_base ho0) hb); have n4_ := Aside0.mk (Kd.R_elder' (sqR HO604.out) (Kd.R_base ho0) hb); have n5_ := Aside0.mk (Kd.V_elder' (sqV HO607.out) (Kd.R_base ho0) hb); have n6_ := Aside0.mk (Kd.R_lower (Kd.R_new' (Kd.R_newM (M := fun k_ => (w.heap.size ≤ k_)) ho0 (below_size sqB) (fun k_ h_ => h_)) (Kd.R_lt (sqR HO604.out))) (below_size sqB)); have n7_ := Aside0.mk (below_step sqB hb); clear HO_0; clear HO_1; clear HO_15; clear HO_16; clear HO604; clear HO607; clear HB; have HO_0 := n0_; have HO_1 := n1_; have HO_15 := n2_; have HO_16 := n3_; have HO604 := n4_; have HO607 := n5_; have HO610 := n6_; have HB := n7_; clear n0_ n1_ n2_ n3_ n4_ n5_ n6_ n7_; (try clear hb); (try clear hb2); (try clear hk); (try clear hi); (try clear ho0); obtain ⟨Ao26, co26, eo26⟩ := Kd.R_slice HO610.out; subst eo26) | ((with_reducible refine gate_callee (f := 80) rfl ?_); refine goesL_ (some 58) rfl rfl Tryz.func80 (by kernel_rfl) rfl #[.slice Ao26 t608.length co26, .slice Ao22 x16_10.length co22] rfl sqA ?_; (with_reducible refine (endonymref2_Cmp.calls kj10 _ _ t608 _ _ x16_10 t611 _ ?side1 ?side2 ?side3 ?side4 A19.out).mono ?_); (case side1 => repeat (first | exact (Kd.R_reads' HO610.out).2.2 | (with_reducible refine Kd.C_alloc ?_ _) | (with_reducible refine Kd.C_drewN ?_ _) | (with_reducible refine Kd.C_drew ?_))); (case side2 => exact (Kd.R_reads' HO610.out).2.1); (case side3 => repeat (first | exact (Kd.V_reads' HO_16.out).2.2 | (with_reducible refine Kd.C_alloc ?_ _) | (with_reducible refine Kd.C_drewN ?_ _) | (with_reducible refine Kd.C_drew ?_))); (case side4 => exact (Kd.V_reads' HO_16.out).2.1); rintro e w' ⟨rfl, ⟨nd, rfl⟩⟩; refine ⟨_, rfl, ?_⟩))
     (try simp only [Act.put, List.setIfInBounds_toArray, List.set_cons_zero, List.set_cons_succ])
     go_cut [68] (fun v68 wc => ∃ (kq : Nat) (x68_19 : Bool), v68 = .bool x68_19 ∧ Aside0 (endonymref2_Round.j2 kq l0 l1 a2 a3 a4 ji10 x14_1 t602 x68_19 = some (r1, r2, r3)) ∧ Aside0 (kq ≤ kj10) ∧ Aside0 (Kd.V (Kd.int .u32) 83 wc w.heap.size (fun k_ => ((P0_ k_ ∨ P1_ k_) ∨ w.heap.size ≤ k_) ∧ some k_ ≠ (v603 : Value).ownBlock) (.slice A0 l0.length c0) l0) ∧ Aside0 (Kd.V (Kd.int .u32) 83 wc w.heap.size (fun k_ => ((P0_ k_ ∨ P1_ k_) ∨ w.heap.size ≤ k_) ∧ some k_ ≠ (v603 : Value).ownBlock) (.slice A1 l1.length c1) l1) ∧ Aside0 (Kd.R (Kd.int .u32) 83 wc w.heap.size (fun k_ => (w.heap.size ≤ k_)) v603 t602) ∧ Aside0 (Below w.heap.size w wc))
     case first =>
      have H := HC20.out
      clear HC20
      by_cases c27 : t611 > 0
      ·rw [if_pos c27] at H
       have c27b0 := decide_eq_true c27
       clear c27
       (first | rw [c27b0] | (simp only [i64_w, i32_w]; rw [c27b0]) | skip)
       have H' := Aside0.mk H
       clear H
       go_wp2
       go_meet
       case rel => exact ⟨_, (true), sqE, H', ⟨by have := HK1.out; have := HJ10.out; first | omega | exact Nat.le_refl _⟩, ⟨by (with_reducible repeat (first | apply Kd.V_alloc | apply Kd.V_drewN | apply Kd.V_drew)); exact Kd.V_mono HO_0.out (fun _ hk => ⟨hk.1.1, hk.1.2⟩)⟩, ⟨by (with_reducible repeat (first | apply Kd.V_alloc | apply Kd.V_drewN | apply Kd.V_drew)); exact Kd.V_mono HO_1.out (fun _ hk => ⟨hk.1.1, hk.1.2⟩)⟩, ⟨by (with_reducible repeat (first | apply Kd.R_alloc | apply Kd.R_drewN | apply Kd.R_drew)); exact Kd.R_mono HO604.out (fun _ hk => hk.1.1)⟩, ⟨sqB⟩⟩
      rw [if_neg c27] at H
      have c27b0 := decide_eq_false c27
      clear c27
      (first | rw [c27b0] | (simp only [i64_w, i32_w]; rw [c27b0]) | skip)
      by_cases c28 : t611 = 0
      case neg =>
       rw [if_neg c28] at H
       have c28b0 := beq_eq_false_iff_ne.mpr c28
       have c28b1 := bne_iff_ne.mpr c28
       have H' := Aside0.mk H
       clear H
       go_wp2
       go_meet
       case rel => exact ⟨_, (false), sqE, H', ⟨by have := HK1.out; have := HJ10.out; first | omega | exact Nat.le_refl _⟩, ⟨by (with_reducible repeat (first | apply Kd.V_alloc | apply Kd.V_drewN | apply Kd.V_drew)); exact Kd.V_mono HO_0.out (fun _ hk => ⟨hk.1.1, hk.1.2⟩)⟩, ⟨by (with_reducible repeat (first | apply Kd.V_alloc | apply Kd.V_drewN | apply Kd.V_drew)); exact Kd.V_mono HO_1.out (fun _ hk => ⟨hk.1.1, hk.1.2⟩)⟩, ⟨by (with_reducible repeat (first | apply Kd.R_alloc | apply Kd.R_drewN | apply Kd.R_drew)); exact Kd.R_mono HO604.out (fun _ hk => hk.1.1)⟩, ⟨sqB⟩⟩
      rw [if_pos c28] at H
      have c28b0 := beq_iff_eq.mpr c28
      have c28b1 := bne_eq_false_iff_eq.mpr c28
      clear c28
      obtain ⟨t612, A29, H⟩ := sqO H
      try dsimp only at H
      have H' := Aside0.mk H
      clear H
      obtain ⟨Ao30, co30, eo30⟩ := Kd.R_slice HO604.out
      subst eo30
      go_wp2_with (first | (go_at_call 104; (with_reducible refine (endonymref2_Bit.calls _ _ t602 0 t612 _ ?side1 ?side2 A29.out).mono ?_); (case side1 => repeat (first | exact (Kd.R_reads' HO604.out).2.2 | (with_reducible refine Kd.C_alloc ?_ _) | (with_reducible refine Kd.C_drewN ?_ _) | (with_reducible refine Kd.C_drew ?_))); (case side2 => exact (Kd.R_reads' HO604.out).2.1); rintro e w' ⟨rfl, ⟨nd, rfl⟩⟩))
      go_meet
      case rel => exact ⟨_, (t612), sqE, H', ⟨by have := HK1.out; have := HJ10.out; first | omega | exact Nat.le_refl _⟩, ⟨by (with_reducible repeat (first | apply Kd.V_alloc | apply Kd.V_drewN | apply Kd.V_drew)); exact Kd.V_mono HO_0.out (fun _ hk => ⟨hk.1.1, hk.1.2⟩)⟩, ⟨by (with_reducible repeat (first | apply Kd.V_alloc | apply Kd.V_drewN | apply Kd.V_drew)); exact Kd.V_mono HO_1.out (fun _ hk => ⟨hk.1.1, hk.1.2⟩)⟩, ⟨by (with_reducible repeat (first | apply Kd.R_alloc | apply Kd.R_drewN | apply Kd.R_drew)); exact Kd.R_mono HO604.out (fun _ hk => hk.1.1)⟩, ⟨sqB⟩⟩
     case rest =>
      clear HC20
      try clear c1
      try clear c2
      try clear p2
      try clear c6
      try clear c6b0
      try clear c6b1
      try clear c6b2
      try clear p6
      try clear c7
      try clear c8
      try clear c9
      try clear c9b0
      try clear c12
      try clear c12b0
      try clear c27
      try clear c27b0
      try clear c28
      try clear c28b0
      try clear c28b1
      try clear p2
      try clear p6
      obtain ⟨kq, x68_19, rfl, HA, HJ19, HO_0, HO_1, HO_17, HB⟩ := hcut
      cases kq with
      | zero => exact absurd HA.out (by simp [endonymref2_Round.j2])
      | succ kj19 =>
       have H := HA.out
       clear HA
       simp only [endonymref2_Round.j2] at H
       have HC31 := Aside0.mk H
       clear H
       go_upto_if 68 with (fail)
       go_cut [17] (fun v17 wc => ∃ (kq : Nat) (x17_30 : List Int), Aside0 (endonymref2_Round.j3 kq l0 l1 a2 a3 a4 ji10 x14_1 x17_30 = some (r1, r2, r3)) ∧ Aside0 (kq ≤ kj19) ∧ Aside0 (Kd.V (Kd.int .u32) 83 wc w.heap.size (fun k_ => ((P0_ k_ ∨ P1_ k_) ∨ w.heap.size ≤ k_) ∧ some k_ ≠ (v17 : Value).ownBlock) (.slice A0 l0.length c0) l0) ∧ Aside0 (Kd.V (Kd.int .u32) 83 wc w.heap.size (fun k_ => ((P0_ k_ ∨ P1_ k_) ∨ w.heap.size ≤ k_) ∧ some k_ ≠ (v17 : Value).ownBlock) (.slice A1 l1.length c1) l1) ∧ Aside0 (Kd.R (Kd.int .u32) 83 wc w.heap.size (fun k_ => (w.heap.size ≤ k_)) v17 x17_30) ∧ Aside0 (Below w.heap.size w wc))
       case first =>
        have H := HC31.out
        clear HC31
        by_cases c32 : x68_19 = true
        case neg =>
         replace c32 := Bool.eq_false_iff.mpr c32
         subst c32
         have H1 : (endonymref2_Round.j3 kj19 l0 l1 a2 a3 a4 ji10 x14_1 t602) = some (r1, r2, r3) := by rw [if_neg (show ¬ (false = true) by decide)] at H; exact H
         clear H
         have H := H1
         clear H1
         have H' := Aside0.mk H
         clear H
         go_wp2
         go_meet
         case rel => exact ⟨_, (t602), H', ⟨by have := HK1.out; have := HJ10.out; have := HJ19.out; first | omega | exact Nat.le_refl _⟩, ⟨sqV HO_0.out⟩, ⟨sqV HO_1.out⟩, ⟨sqR HO_17.out⟩, ⟨sqB⟩⟩
        subst c32
        have H1 : ((endonymref2_Of.f kj19 1).bind fun t613 => ((endonymref2_Plus.f kj19 t602 t613).bind fun t616 => (endonymref2_Round.j3 kj19 l0 l1 a2 a3 a4 ji10 x14_1 t616))) = some (r1, r2, r3) := by rw [if_pos rfl] at H; exact H
        clear H
        have H := H1
        clear H1
        obtain ⟨t613, A33, H⟩ := sqO H
        try dsimp only at H
        obtain ⟨t616, A34, H⟩ := sqO H
        try dsimp only at H
        have H' := Aside0.mk H
        clear H
        go_wp2_with (first | ((with_reducible refine gate_callee (f := 65) rfl ?_); refine goesL_ (some 70) rfl rfl Tryz.func65 (by kernel_rfl) rfl #[.int .u64 1] rfl sqA ?_; (with_reducible refine (endonymref2_Of.calls kj19 1 t613 _ A33.out).mono ?_); rintro e w35 ⟨v614, rfl, ho0, hb⟩; refine ⟨_, rfl, ?_⟩; have n0_ := Aside0.mk (Kd.V_elder' (sqV HO_0.out) (Kd.R_base ho0) hb); have n1_ := Aside0.mk (Kd.V_elder' (sqV HO_1.out) (Kd.R_base ho0) hb); have n2_ := Aside0.mk (Kd.R_elder' (sqR HO_17.out) (Kd.R_base ho0) hb); have n3_ := Aside0.mk (Kd.R_lower (Kd.R_new' (Kd.R_newM (M := fun k_ => (w.heap.size ≤ k_)) ho0 (below_size sqB) (fun k_ h_ => h_)) (Kd.R_lt (sqR HO_17.out))) (below_size sqB)); have n4_ := Aside0.mk (below_step sqB hb); clear HO_0; clear HO_1; clear HO_17; clear HB; have HO_0 := n0_; have HO_1 := n1_; have HO_17 := n2_; have HO615 := n3_; have HB := n4_; clear n0_ n1_ n2_ n3_ n4_; (try clear hb); (try clear hb2); (try clear hk); (try clear hi); (try clear ho0); obtain ⟨Ao36, co36, eo36⟩ := Kd.R_slice HO_17.out; subst eo36; obtain ⟨Ao37, co37, eo37⟩ := Kd.R_slice HO615.out; subst eo37) | ((with_reducible refine gate_callee (f := 99) rfl ?_); refine goesL_ (some 71) rfl rfl Tryz.func99 (by kernel_rfl) rfl #[.slice Ao36 t602.length co36, .slice Ao37 t613.length co37] rfl sqA ?_; (with_reducible refine (endonymref2_Plus.calls kj19 _ _ t602 _ _ t613 t616 _ ?side1 ?side2 ?side3 ?side4 A34.out).mono ?_); (case side1 => repeat (first | exact (Kd.R_reads' HO_17.out).2.2 | (with_reducible refine Kd.C_alloc ?_ _) | (with_reducible refine Kd.C_drewN ?_ _) | (with_reducible refine Kd.C_drew ?_))); (case side2 => exact (Kd.R_reads' HO_17.out).2.1); (case side3 => repeat (first | exact (Kd.R_reads' HO615.out).2.2 | (with_reducible refine Kd.C_alloc ?_ _) | (with_reducible refine Kd.C_drewN ?_ _) | (with_reducible refine Kd.C_drew ?_))); (case side4 => exact (Kd.R_reads' HO615.out).2.1); rintro e w38 ⟨v617, rfl, ho0, hb⟩; refine ⟨_, rfl, ?_⟩; have n0_ := Aside0.mk (Kd.V_elder' (sqV HO_0.out) (Kd.R_base ho0) hb); have n1_ := Aside0.mk (Kd.V_elder' (sqV HO_1.out) (Kd.R_base ho0) hb); have n2_ := Aside0.mk (Kd.R_elder' (sqR HO_17.out) (Kd.R_base ho0) hb); have n3_ := Aside0.mk (Kd.R_elder' (sqR HO615.out) (Kd.R_base ho0) hb); have n4_ := Aside0.mk (Kd.R_lower (Kd.R_new' (Kd.R_new' (Kd.R_newM (M := fun k_ => (w.heap.size ≤ k_)) ho0 (below_size sqB) (fun k_ h_ => h_)) (Kd.R_lt (sqR HO_17.out))) (Kd.R_lt (sqR HO615.out))) (below_size sqB)); have n5_ := Aside0.mk (below_step sqB hb); clear HO_0; clear HO_1; clear HO_17; clear HO615; clear HB; have HO_0 := n0_; have HO_1 := n1_; have HO_17 := n2_; have HO615 := n3_; have HO618 := n4_; have HB := n5_; clear n0_ n1_ n2_ n3_ n4_ n5_; (try clear hb); (try clear hb2); (try clear hk); (try clear hi); (try clear ho0)))
        go_meet
        case rel => exact ⟨_, (t616), H', ⟨by have := HK1.out; have := HJ10.out; have := HJ19.out; first | omega | exact Nat.le_refl _⟩, ⟨by (with_reducible repeat (first | apply Kd.V_alloc | apply Kd.V_drewN | apply Kd.V_drew)); exact Kd.V_mono HO_0.out (fun _ hk => ⟨hk.1.1.1, hk.2⟩)⟩, ⟨by (with_reducible repeat (first | apply Kd.V_alloc | apply Kd.V_drewN | apply Kd.V_drew)); exact Kd.V_mono HO_1.out (fun _ hk => ⟨hk.1.1.1, hk.2⟩)⟩, ⟨by (with_reducible repeat (first | apply Kd.R_alloc | apply Kd.R_drewN | apply Kd.R_drew)); exact Kd.R_mono HO618.out (fun _ hk => hk.1.1.1)⟩, ⟨sqB⟩⟩
       case rest =>
        clear HC31
        try clear c1
        try clear c2
        try clear p2
        try clear c3
        try clear c6
        try clear c6b0
        try clear c6b1
        try clear c6b2
        try clear p6
        try clear c7
        try clear c8
        try clear c9
        try clear c9b0
        try clear c12
        try clear c12b0
        try clear c27
        try clear c27b0
        try clear c28
        try clear c28b0
        try clear c28b1
        try clear c32
        try clear p2
        try clear p6
        obtain ⟨kq, x17_30, HA, HJ30, HO_0, HO_1, HO_17, HB⟩ := hcut
        cases kq with
        | zero => exact absurd HA.out (by simp [endonymref2_Round.j3])
        | succ kj30 =>
         have H := HA.out
         clear HA
         simp only [endonymref2_Round.j3] at H
         have HC39 := Aside0.mk H
         clear H
         go_upto_region 16 with (fail)
         go_cut [92] (fun v92 wc => ∃ (kq : Nat) (x92_38 : Bool), v92 = .bool x92_38 ∧ Aside0 (endonymref2_Round.j4 kq l0 l1 a2 a3 a4 ji10 x14_1 x17_30 x92_38 = some (r1, r2, r3)) ∧ Aside0 (kq ≤ kj30) ∧ Aside0 (Kd.V (Kd.int .u32) 83 wc w.heap.size (fun k_ => ((P0_ k_ ∨ P1_ k_) ∨ w.heap.size ≤ k_) ∧ some k_ ≠ (u17 : Value).ownBlock) (.slice A0 l0.length c0) l0) ∧ Aside0 (Kd.V (Kd.int .u32) 83 wc w.heap.size (fun k_ => ((P0_ k_ ∨ P1_ k_) ∨ w.heap.size ≤ k_) ∧ some k_ ≠ (u17 : Value).ownBlock) (.slice A1 l1.length c1) l1) ∧ Aside0 (Kd.R (Kd.int .u32) 83 wc w.heap.size (fun k_ => (w.heap.size ≤ k_)) u17 x17_30) ∧ Aside0 (Below w.heap.size w wc))
         case first =>
          have H := HC39.out
          clear HC39
          obtain ⟨t619, A40, H⟩ := sqO H
          try dsimp only at H
          by_cases c41 : t619 ≤ (wrap64 (a2 + 1))
          ·rw [if_pos c41] at H
           have c41b0 := decide_eq_true c41
           clear c41
           (first | rw [c41b0] | (simp only [i64_w, i32_w]; rw [c41b0]) | skip)
           have H' := Aside0.mk H
           clear H
           obtain ⟨Ao42, co42, eo42⟩ := Kd.R_slice HO_17.out
           subst eo42
           go_wp2_with (first | ((with_reducible refine gate_callee (f := 75) rfl ?_); refine goesL_ (some 73) rfl rfl Tryz.func75 (by kernel_rfl) rfl #[.slice Ao42 x17_30.length co42] rfl sqA ?_; (with_reducible refine (endonymref2_Length.calls kj30 _ _ x17_30 t619 _ ?side1 ?side2 A40.out).mono ?_); (case side1 => repeat (first | exact (Kd.R_reads' HO_17.out).2.2 | (with_reducible refine Kd.C_alloc ?_ _) | (with_reducible refine Kd.C_drewN ?_ _) | (with_reducible refine Kd.C_drew ?_))); (case side2 => exact (Kd.R_reads' HO_17.out).2.1); rintro e w' ⟨rfl, ⟨nd, rfl⟩⟩; refine ⟨_, rfl, ?_⟩))
           go_meet
           case rel => exact ⟨_, (true), sqE, H', ⟨by have := HK1.out; have := HJ10.out; have := HJ19.out; have := HJ30.out; first | omega | exact Nat.le_refl _⟩, ⟨sqV HO_0.out⟩, ⟨sqV HO_1.out⟩, ⟨sqR HO_17.out⟩, ⟨sqB⟩⟩
          rw [if_neg c41] at H
          have c41b0 := decide_eq_false c41
          clear c41
          (first | rw [c41b0] | (simp only [i64_w, i32_w]; rw [c41b0]) | skip)
          obtain ⟨t620, A43, H⟩ := sqO H
          try dsimp only at H
          by_cases c44 : t620 = (wrap64 (a2 + 2))
          case neg =>
           rw [if_neg c44] at H
           have c44b0 := beq_eq_false_iff_ne.mpr c44
           have c44b1 := bne_iff_ne.mpr c44
           have H' := Aside0.mk H
           clear H
           obtain ⟨Ao53, co53, eo53⟩ := Kd.R_slice HO_17.out
           subst eo53
           go_wp2_with (first | ((with_reducible refine gate_callee (f := 75) rfl ?_); refine goesL_ (some 73) rfl rfl Tryz.func75 (by kernel_rfl) rfl #[.slice Ao53 x17_30.length co53] rfl sqA ?_; (with_reducible refine (endonymref2_Length.calls kj30 _ _ x17_30 t619 _ ?side1 ?side2 A40.out).mono ?_); (case side1 => repeat (first | exact (Kd.R_reads' HO_17.out).2.2 | (with_reducible refine Kd.C_alloc ?_ _) | (with_reducible refine Kd.C_drewN ?_ _) | (with_reducible refine Kd.C_drew ?_))); (case side2 => exact (Kd.R_reads' HO_17.out).2.1); rintro e w' ⟨rfl, ⟨nd, rfl⟩⟩; refine ⟨_, rfl, ?_⟩) | (go_at_call 75; (with_reducible refine (endonymref2_Length.calls kj30 _ _ x17_30 t620 _ ?side1 ?side2 A43.out).mono ?_); (case side1 => repeat (first | exact (Kd.R_reads' HO_17.out).2.2 | (with_reducible refine Kd.C_alloc ?_ _) | (with_reducible refine Kd.C_drewN ?_ _) | (with_reducible refine Kd.C_drew ?_))); (case side2 => exact (Kd.R_reads' HO_17.out).2.1); rintro e w' ⟨rfl, ⟨nd, rfl⟩⟩))
           go_meet
           case rel => exact ⟨_, (false), sqE, H', ⟨by have := HK1.out; have := HJ10.out; have := HJ19.out; have := HJ30.out; first | omega | exact Nat.le_refl _⟩, ⟨sqV HO_0.out⟩, ⟨sqV HO_1.out⟩, ⟨sqR HO_17.out⟩, ⟨sqB⟩⟩
          rw [if_pos c44] at H
          have c44b0 := beq_iff_eq.mpr c44
          have c44b1 := bne_eq_false_iff_eq.mpr c44
          clear c44
          obtain ⟨t621, A45, H⟩ := sqO H
          try dsimp only at H
          obtain ⟨t624, A46, H⟩ := sqO H
          try dsimp only at H
          obtain ⟨t627, A47, H⟩ := sqO H
          try dsimp only at H
          have H' := Aside0.mk H
          clear H
          obtain ⟨Ao48, co48, eo48⟩ := Kd.R_slice HO_17.out
          subst eo48
          go_wp2_with (first | ((with_reducible refine gate_callee (f := 75) rfl ?_); refine goesL_ (some 73) rfl rfl Tryz.func75 (by kernel_rfl) rfl #[.slice Ao48 x17_30.length co48] rfl sqA ?_; (with_reducible refine (endonymref2_Length.calls kj30 _ _ x17_30 t619 _ ?side1 ?side2 A40.out).mono ?_); (case side1 => repeat (first | exact (Kd.R_reads' HO_17.out).2.2 | (with_reducible refine Kd.C_alloc ?_ _) | (with_reducible refine Kd.C_drewN ?_ _) | (with_reducible refine Kd.C_drew ?_))); (case side2 => exact (Kd.R_reads' HO_17.out).2.1); rintro e w' ⟨rfl, ⟨nd, rfl⟩⟩; refine ⟨_, rfl, ?_⟩) | (go_at_call 75; (with_reducible refine (endonymref2_Length.calls kj30 _ _ x17_30 t620 _ ?side1 ?side2 A43.out).mono ?_); (case side1 => repeat (first | exact (Kd.R_reads' HO_17.out).2.2 | (with_reducible refine Kd.C_alloc ?_ _) | (with_reducible refine Kd.C_drewN ?_ _) | (with_reducible refine Kd.C_drew ?_))); (case side2 => exact (Kd.R_reads' HO_17.out).2.1); rintro e w' ⟨rfl, ⟨nd, rfl⟩⟩) | (go_at_call 65; (with_reducible refine (endonymref2_Of.calls kj30 1 t621 _ A45.out).mono ?_); rintro e w49 ⟨v622, rfl, ho0, hb⟩; have n0_ := Aside0.mk (Kd.V_elder' (sqV HO_0.out) (Kd.R_base ho0) hb); have n1_ := Aside0.mk (Kd.V_elder' (sqV HO_1.out) (Kd.R_base ho0) hb); have n2_ := Aside0.mk (Kd.R_elder' (sqR HO_17.out) (Kd.R_base ho0) hb); have n3_ := Aside0.mk (Kd.R_lower (Kd.R_new' (Kd.R_newM (M := fun k_ => (w.heap.size ≤ k_)) ho0 (below_size sqB) (fun k_ h_ => h_)) (Kd.R_lt (sqR HO_17.out))) (below_size sqB)); have n4_ := Aside0.mk (below_step sqB hb); clear HO_0; clear HO_1; clear HO_17; clear HB; have HO_0 := n0_; have HO_1 := n1_; have HO_17 := n2_; have HO623 := n3_; have HB := n4_; clear n0_ n1_ n2_ n3_ n4_; (try clear hb); (try clear hb2); (try clear hk); (try clear hi); (try clear ho0); obtain ⟨Ao50, co50, eo50⟩ := Kd.R_slice HO623.out; subst eo50) | (go_at_call 74; (with_reducible refine (endonymref2_Left.calls kj30 _ _ t621 (wrap64 (a2 + 1)) t624 _ ?side1 ?side2 A46.out).mono ?_); (case side1 => repeat (first | exact (Kd.R_reads' HO623.out).2.2 | (with_reducible refine Kd.C_alloc ?_ _) | (with_reducible refine Kd.C_drewN ?_ _) | (with_reducible refine Kd.C_drew ?_))); (case side2 => exact (Kd.R_reads' HO623.out).2.1); rintro e w51 ⟨v625, rfl, ho0, hb⟩; have n0_ := Aside0.mk (Kd.V_elder' (sqV HO_0.out) (Kd.R_base ho0) hb); have n1_ := Aside0.mk (Kd.V_elder' (sqV HO_1.out) (Kd.R_base ho0) hb); have n2_ := Aside0.mk (Kd.R_elder' (sqR HO_17.out) (Kd.R_base ho0) hb); have n3_ := Aside0.mk (Kd.R_elder' (sqR HO623.out) (Kd.R_base ho0) hb); have n4_ := Aside0.mk (Kd.R_lower (Kd.R_new' (Kd.R_new' (Kd.R_newM (M := fun k_ => (w.heap.size ≤ k_)) ho0 (below_size sqB) (fun k_ h_ => h_)) (Kd.R_lt (sqR HO_17.out))) (Kd.R_lt (sqR HO623.out))) (below_size sqB)); have n5_ := Aside0.mk (below_step sqB hb); clear HO_0; clear HO_1; clear HO_17; clear HO623; clear HB; have HO_0 := n0_; have HO_1 := n1_; have HO_17 := n2_; have HO623 := n3_; have HO626 := n4_; have HB := n5_; clear n0_ n1_ n2_ n3_ n4_ n5_; (try clear hb); (try clear hb2); (try clear hk); (try clear hi); (try clear ho0); obtain ⟨Ao52, co52, eo52⟩ := Kd.R_slice HO626.out; subst eo52) | (go_at_call 80; (with_reducible refine (endonymref2_Cmp.calls kj30 _ _ x17_30 _ _ t624 t627 _ ?side1 ?side2 ?side3 ?side4 A47.out).mono ?_); (case side1 => repeat (first | exact (Kd.R_reads' HO_17.out).2.2 | (with_reducible refine Kd.C_alloc ?_ _) | (with_reducible refine Kd.C_drewN ?_ _) | (with_reducible refine Kd.C_drew ?_))); (case side2 => exact (Kd.R_reads' HO_17.out).2.1); (case side3 => repeat (first | exact (Kd.R_reads' HO626.out).2.2 | (with_reducible refine Kd.C_alloc ?_ _) | (with_reducible refine Kd.C_drewN ?_ _) | (with_reducible refine Kd.C_drew ?_))); (case side4 => exact (Kd.R_reads' HO626.out).2.1); rintro e w' ⟨rfl, ⟨nd, rfl⟩⟩))
          go_meet
          case rel => exact ⟨_, ((t627 == 0)), sqE, H', ⟨by have := HK1.out; have := HJ10.out; have := HJ19.out; have := HJ30.out; first | omega | exact Nat.le_refl _⟩, ⟨by (with_reducible repeat (first | apply Kd.V_alloc | apply Kd.V_drewN | apply Kd.V_drew)); exact Kd.V_mono HO_0.out (fun _ hk => ⟨hk.1.1.1, hk.1.1.2⟩)⟩, ⟨by (with_reducible repeat (first | apply Kd.V_alloc | apply Kd.V_drewN | apply Kd.V_drew)); exact Kd.V_mono HO_1.out (fun _ hk => ⟨hk.1.1.1, hk.1.1.2⟩)⟩, ⟨by (with_reducible repeat (first | apply Kd.R_alloc | apply Kd.R_drewN | apply Kd.R_drew)); exact Kd.R_mono HO_17.out (fun _ hk => hk.1.1)⟩, ⟨sqB⟩⟩
         case rest =>
          clear HC39
          try clear c1
          try clear c2
          try clear p2
          try clear c3
          try clear c4
          try clear c6
          try clear c6b0
          try clear c6b1
          try clear c6b2
          try clear p6
          try clear c7
          try clear c8
          try clear c9
          try clear c9b0
          try clear c12
          try clear c12b0
          try clear c27
          try clear c27b0
          try clear c28
          try clear c28b0
          try clear c28b1
          try clear c32
          try clear c41
          try clear c41b0
          try clear c44
          try clear c44b0
          try clear c44b1
          try clear p2
          try clear p6
          obtain ⟨kq, x92_38, rfl, HA, HJ38, HO_0, HO_1, HO_17, HB⟩ := hcut
          cases kq with
          | zero => exact absurd HA.out (by simp [endonymref2_Round.j4])
          | succ kj38 =>
           have H := HA.out
           clear HA
           simp only [endonymref2_Round.j4] at H
           by_cases c54 : x92_38 = true
           case neg =>
            replace c54 := Bool.eq_false_iff.mpr c54
            subst c54
            have H1 : (endonymref2_Round.l0 kj38 l0 l1 a2 a3 a4 (wrap64 (ji10 + 1)) (wrap64 (x14_1 + 1))) = some (r1, r2, r3) := by rw [if_neg (show ¬ (false = true) by decide)] at H; exact H
            clear H
            have H := H1
            clear H1
            have H' := Aside0.mk H
            clear H
            go_wp2
            go_roundg kj38
            case measure => have := HK1.out; have := HJ10.out; have := HJ19.out; have := HJ30.out; have := HJ38.out; omega
            case rel => exact ⟨(wrap64 (ji10 + 1)), (wrap64 (x14_1 + 1)), (by first | rfl | (simp; done) | (simp only [← hji10] <;> (first | rfl | simp)) | (simp [*]; done)), sqE, H', ⟨by have := HK1.out; have := HJ10.out; have := HJ19.out; have := HJ30.out; have := HJ38.out; omega⟩, ⟨by (with_reducible repeat (first | apply Kd.V_alloc | apply Kd.V_drewN | apply Kd.V_drew)); exact Kd.V_mono HO_0.out (fun _ hk => hk.1)⟩, ⟨by (with_reducible repeat (first | apply Kd.V_alloc | apply Kd.V_drewN | apply Kd.V_drew)); exact Kd.V_mono HO_1.out (fun _ hk => hk.1)⟩, ⟨sqB⟩⟩
           subst c54
           have H1 : ((endonymref2_Length.f kj38 x17_30).bind fun t628 => (if (wrap64 (ji10 + t628)) > a4 then (some (([] : List Int), 0, false)) else (some (x17_30, ji10, true)))) = some (r1, r2, r3) := by rw [if_pos rfl] at H; exact H
           clear H
           have H := H1
           clear H1
           obtain ⟨t628, A55, H⟩ := sqO H
           try dsimp only at H
           by_cases c56 : (wrap64 (ji10 + t628)) > a4
           ·rw [if_pos c56] at H
            have c56b0 := decide_eq_true c56
            clear c56
            simp only [Option.some.injEq, Prod.mk.injEq] at H
            obtain ⟨rfl, rfl, rfl⟩ := H
            obtain ⟨Ao57, co57, eo57⟩ := Kd.R_slice HO_17.out
            subst eo57
            go_wp2_with (first | ((with_reducible refine gate_callee (f := 75) rfl ?_); refine goesL_ (some 95) rfl rfl Tryz.func75 (by kernel_rfl) rfl #[.slice Ao57 x17_30.length co57] rfl sqA ?_; (with_reducible refine (endonymref2_Length.calls kj38 _ _ x17_30 t628 _ ?side1 ?side2 A55.out).mono ?_); (case side1 => repeat (first | exact (Kd.R_reads' HO_17.out).2.2 | (with_reducible refine Kd.C_alloc ?_ _) | (with_reducible refine Kd.C_drewN ?_ _) | (with_reducible refine Kd.C_drew ?_))); (case side2 => exact (Kd.R_reads' HO_17.out).2.1); rintro e w' ⟨rfl, ⟨nd, rfl⟩⟩; refine ⟨_, rfl, ?_⟩))
            go_ret3
            exact ⟨_, by first | rfl | (simp [errW_none, errW_some] <;> rfl) | (simp only [← hji10]; first | rfl | (simp [errW_none, errW_some] <;> rfl)) | (simp [*, errW_none, errW_some] <;> rfl), by first | exact Kd.R_nil _ _ _ _ _ | exact Kd.N_nil _ _ _ _ _ | exact Kd.V_nil _ _ _ _ _ | exact Kd.Q_nil _ _ _ _ _ | exact Kd.S_nil _ _ _ _ _, sqB⟩
           rw [if_neg c56] at H
           have c56b0 := decide_eq_false c56
           clear c56
           simp only [Option.some.injEq, Prod.mk.injEq] at H
           obtain ⟨rfl, rfl, rfl⟩ := H
           obtain ⟨Ao58, co58, eo58⟩ := Kd.R_slice HO_17.out
           subst eo58
           go_wp2_with (first | ((with_reducible refine gate_callee (f := 75) rfl ?_); refine goesL_ (some 95) rfl rfl Tryz.func75 (by kernel_rfl) rfl #[.slice Ao58 x17_30.length co58] rfl sqA ?_; (with_reducible refine (endonymref2_Length.calls kj38 _ _ x17_30 t628 _ ?side1 ?side2 A55.out).mono ?_); (case side1 => repeat (first | exact (Kd.R_reads' HO_17.out).2.2 | (with_reducible refine Kd.C_alloc ?_ _) | (with_reducible refine Kd.C_drewN ?_ _) | (with_reducible refine Kd.C_drew ?_))); (case side2 => exact (Kd.R_reads' HO_17.out).2.1); rintro e w' ⟨rfl, ⟨nd, rfl⟩⟩; refine ⟨_, rfl, ?_⟩))
           go_ret3
           exact ⟨_, by first | rfl | (simp [errW_none, errW_some] <;> rfl) | (simp only [← hji10]; first | rfl | (simp [errW_none, errW_some] <;> rfl)) | (simp [*, errW_none, errW_some] <;> rfl), sqR HO_17.out, sqB⟩
def endonymref2_value.l0 : Nat → List Int → Int → Int → Option (Int)
 | 0, _, _, _ => none
 | k + 1, x0, x3, x4 => if x4 < (x0.length : Int) then (if x4 < 4 then (if 0 ≤ x4 then (if 0 ≤ (IntKind.u64.wrap (wrap64 (16 * x4))) then (endonymref2_value.l0 k x0 (Go.bits .or .u64 x3 (shl .u64 (IntKind.u64.wrap (rd x0 x4)) (IntKind.u64.wrap (wrap64 (16 * x4))))) (wrap64 (x4 + 1))) else (none)) else (none)) else (some x3)) else (some x3)
def endonymref2_value.f (k : Nat) (l0 : List Int) : Option (Int) := endonymref2_value.l0 k l0 0 0
theorem endonymref2_value.mono_l : ∀ k, (∀ y0 y1 y2, LeO (endonymref2_value.l0 k y0 y1 y2) (endonymref2_value.l0 (k + 1) y0 y1 y2))
 | 0 => fun _ _ _ r h => by simp [endonymref2_value.l0] at h
 | k + 1 => by
  have ih0 := endonymref2_value.mono_l k
  intro y0 y1 y2
  unfold endonymref2_value.l0
  repeat' first | (with_reducible first | apply ih0 | apply LeO.refl | apply LeO.none | refine LeO.ite ?_ ?_ | refine LeO.bind ?_ (fun _ => ?_)) | apply LeO.none | refine LeO.ite ?_ ?_ | refine LeO.bind ?_ (fun _ => ?_)
theorem endonymref2_value.mono : ∀ a0 k, LeO (endonymref2_value.f k a0) (endonymref2_value.f (k + 1) a0) := by
 intro a0 k
 have ih0 := endonymref2_value.mono_l k
 unfold endonymref2_value.f
 repeat' first | (with_reducible first | apply ih0 | apply LeO.refl | apply LeO.none | refine LeO.ite ?_ ?_ | refine LeO.bind ?_ (fun _ => ?_)) | apply LeO.none | refine LeO.ite ?_ ?_ | refine LeO.bind ?_ (fun _ => ?_)
theorem endonymref2_value.calls (k : Nat) (A0 : Option Addr) (c0 : Nat) (l0 : List Int) (r : Int) (w : World) (hr0 : Kd.C (Kd.int .u32) w A0 l0.length l0) (hc0 : l0.length ≤ c0) (h : endonymref2_value.f k l0 = some r) :
  Calls Tryz.prog 78 #[.slice A0 l0.length c0] w fun e w' => e = .returned (.int .u64 r) ∧ Drawn0 w w' := by
 have HR0 := Aside0.mk hr0
 have HC0 := Aside0.mk hc0
 clear hr0 hc0
 have H : (endonymref2_value.l0 k l0 0 0) = some r := h
 clear h
 have H' := Aside0.mk H
 clear H
 go_enter Tryz.func78, Tryz.ntmps78
 go_wp2
 go_loopg [3, 4] k (fun kq v3 v4 w' => ∃ (x3_1 : Int) (x4_1 : Int), v3 = .int .u64 x3_1 ∧ v4 = .int .i64 x4_1 ∧ Aside0 (endonymref2_value.l0 kq l0 x3_1 x4_1 = some r) ∧ Aside0 (kq ≤ k) ∧ Drawn0 w w')
 case atStart => exact ⟨(0), (0), sqE, sqE, H', ⟨Nat.le_refl _⟩, sqW⟩
 case round =>
  clear H'
  obtain ⟨x3_1, x4_1, rfl, rfl, HA, HK1, ⟨m1, rfl⟩⟩ := hrel
  cases gk with
  | zero => exact absurd HA.out (by simp [endonymref2_value.l0])
  | succ k1 =>
   have H := HA.out
   clear HA
   simp only [endonymref2_value.l0] at H
   by_cases c2 : x4_1 < (l0.length : Int)
   case neg =>
    rw [if_neg c2] at H
    have c2b0 := decide_eq_false c2
    clear c2
    obtain rfl := Option.some.inj H
    go_wp2
    go_ret
    exact ⟨sqE, sqW⟩
   rw [if_pos c2] at H
   have c2b0 := decide_eq_true c2
   clear c2
   by_cases c3 : x4_1 < 4
   case neg =>
    rw [if_neg c3] at H
    have c3b0 := decide_eq_false c3
    clear c3
    obtain rfl := Option.some.inj H
    go_wp2
    go_ret
    exact ⟨sqE, sqW⟩
   rw [if_pos c3] at H
   have c3b0 := decide_eq_true c3
   clear c3
   by_cases c4 : 0 ≤ x4_1
   case neg => rw [if_neg c4] at H; exact absurd H (by simp)
   rw [if_pos c4] at H
   have c4b0 := decide_eq_true c4
   clear c4
   obtain ⟨ji5, hji5⟩ : ∃ j_ : Int, (IntKind.u64.wrap (wrap64 (16 * x4_1))) = j_ := ⟨_, rfl⟩
   replace H : (if 0 ≤ (ji5) then (endonymref2_value.l0 k1 l0 (Go.bits .or .u64 x3_1 (shl .u64 (IntKind.u64.wrap (rd l0 x4_1)) (ji5))) (wrap64 (x4_1 + 1))) else (none)) = some r := by first | (rw [hji5] at H; exact H) | (simp only [hji5] at H ⊢; exact H)
   by_cases c6 : 0 ≤ (ji5)
   case neg => rw [if_neg c6] at H; exact absurd H (by simp)
   rw [if_pos c6] at H
   have c6b0 := eq_true c6
   have c6b1 := decide_eq_true c6
   clear c6
   obtain ⟨ji7, hji7⟩ : ∃ j_ : Int, (shl .u64 (IntKind.u64.wrap (rd l0 x4_1)) (ji5)) = j_ := ⟨_, rfl⟩
   replace H : (endonymref2_value.l0 k1 l0 (Go.bits .or .u64 x3_1 (ji7)) (wrap64 (x4_1 + 1))) = some r := by first | (rw [hji7] at H; exact H) | (simp only [hji7] at H ⊢; exact H)
   have hji7_ : (IntKind.u64.wrap ((IntKind.u64.wrap (rd l0 x4_1)) * 2 ^ min (ji5).toNat 64)) = ji7 := hji7
   have hji7z : (ji5) ≤ 64 → (IntKind.u64.wrap ((IntKind.u64.wrap (rd l0 x4_1)) * 2 ^ (ji5).toNat)) = ji7 := shl_small hji7
   have H' := Aside0.mk H
   clear H
   have p629 : 0 ≤ (x4_1 : Int) := sqD
   have q629 : x4_1 < (l0.length : Int) := sqD
   obtain ⟨ad629, e629, hx629_0⟩ := Kd.at_int HR0.out x4_1 p629 q629
   cases e629
   replace p629 := eq_true p629
   replace q629 := eq_true q629
   go_wp2
   go_roundg k1
   case measure => have := HK1.out; omega
   case rel => exact ⟨(Go.bits .or .u64 x3_1 (ji7)), (wrap64 (x4_1 + 1)), (by first | rfl | (simp; done) | (simp only [← hji7] <;> (first | rfl | simp)) | (simp [*]; done)), sqE, H', ⟨by have := HK1.out; omega⟩, sqW⟩
end Go.Proofs.YtfmjdoofopamkaaGreatDoor.W
