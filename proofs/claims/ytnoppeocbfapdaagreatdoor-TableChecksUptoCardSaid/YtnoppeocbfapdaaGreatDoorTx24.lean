import Derived.Test.YtnoppeocbfapdaaGreatDoorTx0
import Derived.Test.YtnoppeocbfapdaaGreatDoorTx1
import Derived.Test.YtnoppeocbfapdaaGreatDoorTx7
import Derived.Test.YtnoppeocbfapdaaGreatDoorTx16
import Derived.Test.YtnoppeocbfapdaaGreatDoorTx18
import Derived.Test.YtnoppeocbfapdaaGreatDoorTx21
import Derived.Test.YtnoppeocbfapdaaGreatDoorTx23
namespace Go.Proofs.YtnoppeocbfapdaaGreatDoor.T
open Go.RowKit Go.Proofs.YtnoppeocbfapdaaGreatDoorW.PrintWords Go.Proofs.YtnoppeocbfapdaaGreatDoorW.PrintLast Go.Proofs.YtnoppeocbfapdaaGreatDoorW.PrintMore
set_option maxHeartbeats 8000000
set_option maxRecDepth 100000
attribute [local go_sem] max2_int min2_int max_two min_two max_three min_three max_four min_four
set_option linter.unusedVariables false
set_option linter.unusedSimpArgs false
mutual
def endonymref6_Check.l0 : Nat → List (S25) → Int → Option (Int × Int)
 | 0, _, _ => none
 | k + 1, x0, x4 => if x4 < (x0.length : Int) then (if 0 ≤ x4 then ((endonymref6_Right.f k ((rd_T25 x0 x4).f0) ((rd_T25 x0 x4).f1) ((rd_T25 x0 x4).f2) ((rd_T25 x0 x4).f3) ((rd_T25 x0 x4).f4) ((rd_T25 x0 x4).f5) ((rd_T25 x0 x4).f6) ((rd_T25 x0 x4).f7)).bind fun t612 => (if t612 = 0 then (endonymref6_Check.l0 k x0 (wrap64 (x4 + 1))) else (some (x4, t612)))) else (none)) else (endonymref6_Check.l1 k x0 0)
def endonymref6_Check.l1 : Nat → List (S25) → Int → Option (Int × Int)
 | 0, _, _ => none
 | k + 1, x0, x6 => if x6 < (x0.length : Int) then (endonymref6_Check.l2 k x0 x6 0) else (some (0, 0))
def endonymref6_Check.l2 : Nat → List (S25) → Int → Int → Option (Int × Int)
 | 0, _, _, _ => none
 | k + 1, x0, x6, x7 => if x7 < x6 then (if 0 ≤ x7 then (if x7 < (x0.length : Int) then (if 0 ≤ x6 then (if x6 < (x0.length : Int) then ((endonymref6_clash.f k ((rd_T25 x0 x7).f0) ((rd_T25 x0 x7).f1) ((rd_T25 x0 x7).f2) ((rd_T25 x0 x7).f3) ((rd_T25 x0 x7).f4) ((rd_T25 x0 x7).f5) ((rd_T25 x0 x7).f6) ((rd_T25 x0 x7).f7) ((rd_T25 x0 x6).f0) ((rd_T25 x0 x6).f1) ((rd_T25 x0 x6).f2) ((rd_T25 x0 x6).f3) ((rd_T25 x0 x6).f4) ((rd_T25 x0 x6).f5) ((rd_T25 x0 x6).f6) ((rd_T25 x0 x6).f7)).bind fun t615 => (if t615 = true then (some (x6, 62)) else (endonymref6_Check.l2 k x0 x6 (wrap64 (x7 + 1))))) else (none)) else (none)) else (none)) else (none)) else (endonymref6_Check.l1 k x0 (wrap64 (x6 + 1)))
end
def endonymref6_Check.f (k : Nat) (l0 : List (S25)) : Option (Int × Int) := if (l0.length : Int) > 4096 then (some (0, 3)) else (endonymref6_Check.l0 k l0 0)
theorem endonymref6_Check.mono_l : ∀ k, (∀ y0 y1, LeO (endonymref6_Check.l0 k y0 y1) (endonymref6_Check.l0 (k + 1) y0 y1)) ∧ (∀ y0 y1, LeO (endonymref6_Check.l1 k y0 y1) (endonymref6_Check.l1 (k + 1) y0 y1)) ∧ (∀ y0 y1 y2, LeO (endonymref6_Check.l2 k y0 y1 y2) (endonymref6_Check.l2 (k + 1) y0 y1 y2))
 | 0 => ⟨fun _ _ r h => by simp [endonymref6_Check.l0] at h, fun _ _ r h => by simp [endonymref6_Check.l1] at h, fun _ _ _ r h => by simp [endonymref6_Check.l2] at h⟩
 | k + 1 => by
  obtain ⟨ih0, ih1, ih2⟩ := endonymref6_Check.mono_l k
  refine ⟨?_, ?_, ?_⟩
  ·intro y0 y1
   unfold endonymref6_Check.l0
   repeat' first | (with_reducible first | apply ih0 | apply ih1 | apply ih2 | apply endonymref6_Right.mono | apply endonymref6_clash.mono | apply LeO.refl | apply LeO.none | refine LeO.ite ?_ ?_ | refine LeO.bind ?_ (fun _ => ?_)) | apply LeO.none | refine LeO.ite ?_ ?_ | refine LeO.bind ?_ (fun _ => ?_)
  ·intro y0 y1
   unfold endonymref6_Check.l1
   repeat' first | (with_reducible first | apply ih0 | apply ih1 | apply ih2 | apply endonymref6_Right.mono | apply endonymref6_clash.mono | apply LeO.refl | apply LeO.none | refine LeO.ite ?_ ?_ | refine LeO.bind ?_ (fun _ => ?_)) | apply LeO.none | refine LeO.ite ?_ ?_ | refine LeO.bind ?_ (fun _ => ?_)
  intro y0 y1 y2
  unfold endonymref6_Check.l2
  repeat' first | (with_reducible first | apply ih0 | apply ih1 | apply ih2 | apply endonymref6_Right.mono | apply endonymref6_clash.mono | apply LeO.refl | apply LeO.none | refine LeO.ite ?_ ?_ | refine LeO.bind ?_ (fun _ => ?_)) | apply LeO.none | refine LeO.ite ?_ ?_ | refine LeO.bind ?_ (fun _ => ?_)
theorem endonymref6_Check.mono : ∀ a0 k, LeO (endonymref6_Check.f k a0) (endonymref6_Check.f (k + 1) a0) := by
 intro a0 k
 obtain ⟨ih0, ih1, ih2⟩ := endonymref6_Check.mono_l k
 unfold endonymref6_Check.f
 repeat' first | (with_reducible first | apply ih0 | apply ih1 | apply ih2 | apply endonymref6_Right.mono | apply endonymref6_clash.mono | apply LeO.refl | apply LeO.none | refine LeO.ite ?_ ?_ | refine LeO.bind ?_ (fun _ => ?_)) | apply LeO.none | refine LeO.ite ?_ ?_ | refine LeO.bind ?_ (fun _ => ?_)
def endonymref6_Check.T15 : Bool × List (List Nat × List Nat) := (true, [([], []), ([], []), ([0, 1], [0, 1]), ([2], [2]), ([], []), ([], []), ([4, 5], [4, 5]), ([6], [6]), ([3, 7], [3, 7])])
def endonymref6_Check.B15 : List Nat := [0, 0, 3, 7, 0, 0, 48, 112, 255]
theorem endonymref6_Check.tab15 : rtab .any (opsOf Tryz.f22 15) = endonymref6_Check.T15 := by kernel_rfl
theorem endonymref6_Check.bits15 : waitsOk endonymref6_Check.T15.2 endonymref6_Check.B15 = true := by kernel_rfl
theorem endonymref6_Check.calls (k : Nat) (A0 : Option Addr) (c0 : Nat) (l0 : List (S25)) (r1 : Int) (r2 : Int) (w : World) (hr0 : Kd.C k25 w A0 l0.length l0) (hc0 : l0.length ≤ c0) (h : endonymref6_Check.f k l0 = some (r1, r2)) :
  Calls Tryz.prog 22 #[.slice A0 l0.length c0] w fun e w' => e = .returned (.tuple #[.int .i64 r1, .int .i64 r2]) ∧ Below w.heap.size w w' := by
 have hu25 := Tryz.underlying25
 have HR0 := Aside0.mk hr0
 have HC0 := Aside0.mk hc0
 clear hr0 hc0
 have HB := Aside0.mk (Below.refl w.heap.size w)
 have H : (if (l0.length : Int) > 4096 then (some (0, 3)) else (endonymref6_Check.l0 k l0 0)) = some (r1, r2) := h
 clear h
 by_cases c2 : (l0.length : Int) > 4096
 ·rw [if_pos c2] at H
  have c2b0 := decide_eq_true c2
  have c2b1 : decide (4096 < l0.length) = true := decide_eq_true (by omega)
  clear c2
  simp only [Option.some.injEq, Prod.mk.injEq] at H
  obtain ⟨rfl, rfl⟩ := H
  go_enter Tryz.func22, Tryz.ntmps22
  go_wp2
  go_ret2
  exact ⟨sqE', sqB⟩
 rw [if_neg c2] at H
 have c2b0 := decide_eq_false c2
 have c2b1 : decide (4096 < l0.length) = false := decide_eq_false (by omega)
 clear c2
 have H' := Aside0.mk H
 clear H
 go_enter Tryz.func22, Tryz.ntmps22
 go_wp2
 go_loopg [4] k (fun kq v4 w' => ∃ (x4_1 : Int), v4 = .int .i64 x4_1 ∧ Aside0 (endonymref6_Check.l0 kq l0 x4_1 = some (r1, r2)) ∧ Aside0 (kq ≤ k) ∧ Aside0 (Below w.heap.size w w'))
 case atStart => exact ⟨(0), sqE, H', ⟨Nat.le_refl _⟩, ⟨sqB⟩⟩
 case round =>
  clear H'
  try clear c2
  try clear c2b0
  try clear c2b1
  obtain ⟨x4_1, rfl, HA, HK1, HB⟩ := hrel
  cases gk with
  | zero => exact absurd HA.out (by simp [endonymref6_Check.l0])
  | succ k1 =>
   have H := HA.out
   clear HA
   simp only [endonymref6_Check.l0] at H
   by_cases c3 : x4_1 < (l0.length : Int)
   ·rw [if_pos c3] at H
    have c3b0 := decide_eq_true c3
    clear c3
    by_cases c4 : 0 ≤ x4_1
    case neg => rw [if_neg c4] at H; exact absurd H (by simp)
    rw [if_pos c4] at H
    have c4b0 := decide_eq_true c4
    clear c4
    obtain ⟨t612, A5, H⟩ := sqO H
    try dsimp only at H
    by_cases c6 : t612 = 0
    case neg =>
     rw [if_neg c6] at H
     have c6b0 := beq_eq_false_iff_ne.mpr c6
     have c6b1 := bne_iff_ne.mpr c6
     simp only [Option.some.injEq, Prod.mk.injEq] at H
     obtain ⟨rfl, rfl⟩ := H
     have p611 : 0 ≤ (x4_1 : Int) := sqD
     have q611 : x4_1 < (l0.length : Int) := sqD
     obtain ⟨ad611, A611_4, c611_4, e611, hx611_0, hx611_1, hx611_2, hx611_3, hx611_4, hx611_5, hx611_6, hx611_7, hl611_4, hi611_4⟩ := at_T25b HR0.out HB.out x4_1 p611 q611
     cases e611
     have HR611_4 := Aside0.mk hi611_4
     have HC611_4 := Aside0.mk hl611_4
     clear hi611_4 hl611_4
     replace p611 := eq_true p611
     replace q611 := eq_true q611
     go_wp2_with (first | ((with_reducible refine gate_callee (f := 19) rfl ?_); refine goesL_ (some 21) rfl rfl Tryz.func19 (by kernel_rfl) rfl #[.agg #[.int .i64 ((rd_T25 l0 x4_1).f0), .int .i64 ((rd_T25 l0 x4_1).f1), .int .i64 ((rd_T25 l0 x4_1).f2), .int .i64 ((rd_T25 l0 x4_1).f3), .slice A611_4 ((rd_T25 l0 x4_1).f4).length c611_4, .string ((rd_T25 l0 x4_1).f5), .string ((rd_T25 l0 x4_1).f6), .float .f64 ((rd_T25 l0 x4_1).f7)]] rfl sqA ?_; (with_reducible refine (endonymref6_Right.calls k1 ((rd_T25 l0 x4_1).f0) ((rd_T25 l0 x4_1).f1) ((rd_T25 l0 x4_1).f2) ((rd_T25 l0 x4_1).f3) _ _ ((rd_T25 l0 x4_1).f4) ((rd_T25 l0 x4_1).f5) ((rd_T25 l0 x4_1).f6) ((rd_T25 l0 x4_1).f7) t612 _ ?side1 ?side2 A5.out).mono ?_); (case side1 => exact sqC (Kd.C_below HR611_4.out HB.out)); (case side2 => exact HC611_4.out); rintro e w8 ⟨rfl, hb⟩; refine ⟨_, rfl, ?_⟩; have n0_ := Aside0.mk (below_step sqB hb); clear HB; have HB := n0_; clear n0_; (try clear hb); (try clear hb2); (try clear hk); (try clear hi)))
     go_ret2
     exact ⟨sqE', sqB⟩
    rw [if_pos c6] at H
    have c6b0 := beq_iff_eq.mpr c6
    have c6b1 := bne_eq_false_iff_eq.mpr c6
    clear c6
    have H' := Aside0.mk H
    clear H
    have p611 : 0 ≤ (x4_1 : Int) := sqD
    have q611 : x4_1 < (l0.length : Int) := sqD
    obtain ⟨ad611, A611_4, c611_4, e611, hx611_0, hx611_1, hx611_2, hx611_3, hx611_4, hx611_5, hx611_6, hx611_7, hl611_4, hi611_4⟩ := at_T25b HR0.out HB.out x4_1 p611 q611
    cases e611
    have HR611_4 := Aside0.mk hi611_4
    have HC611_4 := Aside0.mk hl611_4
    clear hi611_4 hl611_4
    replace p611 := eq_true p611
    replace q611 := eq_true q611
    go_wp2_with (first | ((with_reducible refine gate_callee (f := 19) rfl ?_); refine goesL_ (some 21) rfl rfl Tryz.func19 (by kernel_rfl) rfl #[.agg #[.int .i64 ((rd_T25 l0 x4_1).f0), .int .i64 ((rd_T25 l0 x4_1).f1), .int .i64 ((rd_T25 l0 x4_1).f2), .int .i64 ((rd_T25 l0 x4_1).f3), .slice A611_4 ((rd_T25 l0 x4_1).f4).length c611_4, .string ((rd_T25 l0 x4_1).f5), .string ((rd_T25 l0 x4_1).f6), .float .f64 ((rd_T25 l0 x4_1).f7)]] rfl sqA ?_; (with_reducible refine (endonymref6_Right.calls k1 ((rd_T25 l0 x4_1).f0) ((rd_T25 l0 x4_1).f1) ((rd_T25 l0 x4_1).f2) ((rd_T25 l0 x4_1).f3) _ _ ((rd_T25 l0 x4_1).f4) ((rd_T25 l0 x4_1).f5) ((rd_T25 l0 x4_1).f6) ((rd_T25 l0 x4_1).f7) t612 _ ?side1 ?side2 A5.out).mono ?_); (case side1 => exact sqC (Kd.C_below HR611_4.out HB.out)); (case side2 => exact HC611_4.out); rintro e w7 ⟨rfl, hb⟩; refine ⟨_, rfl, ?_⟩; have n0_ := Aside0.mk (below_step sqB hb); clear HB; have HB := n0_; clear n0_; (try clear hb); (try clear hb2); (try clear hk); (try clear hi)))
    go_roundg k1
    case measure => have := HK1.out; omega
    case rel => exact ⟨(wrap64 (x4_1 + 1)), sqE, H', ⟨by have := HK1.out; omega⟩, ⟨sqB⟩⟩
   rw [if_neg c3] at H
   have c3b0 := decide_eq_false c3
   clear c3
   have H' := Aside0.mk H
   clear H
   go_wp2
   go_loopg [6] k1 (fun kq v6 w' => ∃ (x6_2 : Int), v6 = .int .i64 x6_2 ∧ Aside0 (endonymref6_Check.l1 kq l0 x6_2 = some (r1, r2)) ∧ Aside0 (kq ≤ k1) ∧ Aside0 (Below w.heap.size w w'))
   case atStart => exact ⟨(0), sqE, H', ⟨Nat.le_refl _⟩, ⟨sqB⟩⟩
   case round =>
    clear H'
    try clear c2
    try clear c2b0
    try clear c2b1
    try clear c3
    try clear c3b0
    obtain ⟨x6_2, rfl, HA, HK2, HB⟩ := hrel
    cases gk with
    | zero => exact absurd HA.out (by simp [endonymref6_Check.l1])
    | succ k2 =>
     have H := HA.out
     clear HA
     simp only [endonymref6_Check.l1] at H
     by_cases c9 : x6_2 < (l0.length : Int)
     case neg =>
      rw [if_neg c9] at H
      have c9b0 := decide_eq_false c9
      clear c9
      simp only [Option.some.injEq, Prod.mk.injEq] at H
      obtain ⟨rfl, rfl⟩ := H
      go_wp2
      go_ret2
      exact ⟨sqE', sqB⟩
     rw [if_pos c9] at H
     have c9b0 := decide_eq_true c9
     clear c9
     have H' := Aside0.mk H
     clear H
     go_wp2
     go_loopg [7] k2 (fun kq v7 w' => ∃ (x7_3 : Int), v7 = .int .i64 x7_3 ∧ Aside0 (endonymref6_Check.l2 kq l0 x6_2 x7_3 = some (r1, r2)) ∧ Aside0 (kq ≤ k2) ∧ Aside0 (Below w.heap.size w w'))
     case atStart => exact ⟨(0), sqE, H', ⟨Nat.le_refl _⟩, ⟨sqB⟩⟩
     case round =>
      clear H'
      try clear c2
      try clear c2b0
      try clear c2b1
      try clear c3
      try clear c3b0
      try clear c9
      try clear c9b0
      obtain ⟨x7_3, rfl, HA, HK3, HB⟩ := hrel
      cases gk with
      | zero => exact absurd HA.out (by simp [endonymref6_Check.l2])
      | succ k3 =>
       have H := HA.out
       clear HA
       simp only [endonymref6_Check.l2] at H
       by_cases c10 : x7_3 < x6_2
       case neg =>
        rw [if_neg c10] at H
        have c10b0 := decide_eq_false c10
        clear c10
        have H' := Aside0.mk H
        clear H
        go_wp2
        go_roundg k3
        case measure => have := HK1.out; have := HK2.out; have := HK3.out; omega
        case rel => exact ⟨(wrap64 (x6_2 + 1)), sqE, H', ⟨by have := HK1.out; have := HK2.out; have := HK3.out; omega⟩, ⟨sqB⟩⟩
       rw [if_pos c10] at H
       have c10b0 := decide_eq_true c10
       clear c10
       by_cases c11 : 0 ≤ x7_3
       case neg => rw [if_neg c11] at H; exact absurd H (by simp)
       rw [if_pos c11] at H
       have c11b0 := decide_eq_true c11
       clear c11
       by_cases c12 : x7_3 < (l0.length : Int)
       case neg => rw [if_neg c12] at H; exact absurd H (by simp)
       rw [if_pos c12] at H
       have c12b0 := decide_eq_true c12
       clear c12
       by_cases c13 : 0 ≤ x6_2
       case neg => rw [if_neg c13] at H; exact absurd H (by simp)
       rw [if_pos c13] at H
       have c13b0 := decide_eq_true c13
       clear c13
       by_cases c14 : x6_2 < (l0.length : Int)
       case neg => rw [if_neg c14] at H; exact absurd H (by simp)
       rw [if_pos c14] at H
       have c14b0 := decide_eq_true c14
       clear c14
       obtain ⟨t615, A15, H⟩ := sqO H
       try dsimp only at H
       by_cases c16 : t615 = true
       ·subst c16
        rw [if_pos rfl] at H
        simp only [Option.some.injEq, Prod.mk.injEq] at H
        obtain ⟨rfl, rfl⟩ := H
        try go_wp2
        have n0_ := Aside0.mk (below_drew1 HB.out)
        clear HB
        have HB := n0_
        clear n0_
        have p613 : 0 ≤ (x7_3 : Int) := sqD
        have q613 : x7_3 < (l0.length : Int) := sqD
        obtain ⟨ad613, A613_4, c613_4, e613, hx613_0, hx613_1, hx613_2, hx613_3, hx613_4, hx613_5, hx613_6, hx613_7, hl613_4, hi613_4⟩ := at_T25 HR0.out x7_3 p613 q613
        have hw613_7 := hx613_7
        have hw613_6 := hx613_6
        have hw613_5 := hx613_5
        have hw613_4 := hx613_4
        have hw613_3 := hx613_3
        have hw613_2 := hx613_2
        have hw613_1 := hx613_1
        have hw613_0 := hx613_0
        cases e613
        replace hx613_0 := (HB.out.cell (World.block_lt_of_cell? w _ hx613_0)).trans hx613_0
        replace hx613_1 := (HB.out.cell (World.block_lt_of_cell? w _ hx613_1)).trans hx613_1
        replace hx613_2 := (HB.out.cell (World.block_lt_of_cell? w _ hx613_2)).trans hx613_2
        replace hx613_3 := (HB.out.cell (World.block_lt_of_cell? w _ hx613_3)).trans hx613_3
        replace hx613_4 := (HB.out.cell (World.block_lt_of_cell? w _ hx613_4)).trans hx613_4
        replace hx613_5 := (HB.out.cell (World.block_lt_of_cell? w _ hx613_5)).trans hx613_5
        replace hx613_6 := (HB.out.cell (World.block_lt_of_cell? w _ hx613_6)).trans hx613_6
        replace hx613_7 := (HB.out.cell (World.block_lt_of_cell? w _ hx613_7)).trans hx613_7
        have HR613_4 := Aside0.mk hi613_4
        have HC613_4 := Aside0.mk hl613_4
        clear hi613_4 hl613_4
        replace p613 := eq_true p613
        replace q613 := eq_true q613
        have p614 : 0 ≤ (x6_2 : Int) := sqD
        have q614 : x6_2 < (l0.length : Int) := sqD
        obtain ⟨ad614, A614_4, c614_4, e614, hx614_0, hx614_1, hx614_2, hx614_3, hx614_4, hx614_5, hx614_6, hx614_7, hl614_4, hi614_4⟩ := at_T25 HR0.out x6_2 p614 q614
        have hw614_7 := hx614_7
        have hw614_6 := hx614_6
        have hw614_5 := hx614_5
        have hw614_4 := hx614_4
        have hw614_3 := hx614_3
        have hw614_2 := hx614_2
        have hw614_1 := hx614_1
        have hw614_0 := hx614_0
        obtain rfl : ad613 = ad614 := (by injection e614)
        replace hx614_0 := (HB.out.cell (World.block_lt_of_cell? w _ hx614_0)).trans hx614_0
        replace hx614_1 := (HB.out.cell (World.block_lt_of_cell? w _ hx614_1)).trans hx614_1
        replace hx614_2 := (HB.out.cell (World.block_lt_of_cell? w _ hx614_2)).trans hx614_2
        replace hx614_3 := (HB.out.cell (World.block_lt_of_cell? w _ hx614_3)).trans hx614_3
        replace hx614_4 := (HB.out.cell (World.block_lt_of_cell? w _ hx614_4)).trans hx614_4
        replace hx614_5 := (HB.out.cell (World.block_lt_of_cell? w _ hx614_5)).trans hx614_5
        replace hx614_6 := (HB.out.cell (World.block_lt_of_cell? w _ hx614_6)).trans hx614_6
        replace hx614_7 := (HB.out.cell (World.block_lt_of_cell? w _ hx614_7)).trans hx614_7
        have HR614_4 := Aside0.mk hi614_4
        have HC614_4 := Aside0.mk hl614_4
        clear hi614_4 hl614_4
        replace p614 := eq_true p614
        replace q614 := eq_true q614
        refine start_ (n := 9) (S := fun w' => w'.cell? (ad613.add ((x7_3).toNat * 8)) = some (.int .i64 ((rd_T25 l0 x7_3).f0)) ∧ w'.cell? ⟨(ad613.add ((x7_3).toNat * 8)).block, (ad613.add ((x7_3).toNat * 8)).off + 1, none⟩ = some (.int .i64 ((rd_T25 l0 x7_3).f1)) ∧ w'.cell? ⟨(ad613.add ((x7_3).toNat * 8)).block, (ad613.add ((x7_3).toNat * 8)).off + 2, none⟩ = some (.int .i64 ((rd_T25 l0 x7_3).f2)) ∧ w'.cell? ⟨(ad613.add ((x7_3).toNat * 8)).block, (ad613.add ((x7_3).toNat * 8)).off + 3, none⟩ = some (.int .i64 ((rd_T25 l0 x7_3).f3)) ∧ w'.cell? ⟨(ad613.add ((x7_3).toNat * 8)).block, (ad613.add ((x7_3).toNat * 8)).off + 4, none⟩ = some (.slice A613_4 ((rd_T25 l0 x7_3).f4).length c613_4) ∧ w'.cell? ⟨(ad613.add ((x7_3).toNat * 8)).block, (ad613.add ((x7_3).toNat * 8)).off + 5, none⟩ = some (.string ((rd_T25 l0 x7_3).f5)) ∧ w'.cell? ⟨(ad613.add ((x7_3).toNat * 8)).block, (ad613.add ((x7_3).toNat * 8)).off + 6, none⟩ = some (.string ((rd_T25 l0 x7_3).f6)) ∧ w'.cell? ⟨(ad613.add ((x7_3).toNat * 8)).block, (ad613.add ((x7_3).toNat * 8)).off + 7, none⟩ = some (.float .f64 ((rd_T25 l0 x7_3).f7)) ∧ w'.cell? (ad613.add ((x6_2).toNat * 8)) = some (.int .i64 ((rd_T25 l0 x6_2).f0)) ∧ w'.cell? ⟨(ad613.add ((x6_2).toNat * 8)).block, (ad613.add ((x6_2).toNat * 8)).off + 1, none⟩ = some (.int .i64 ((rd_T25 l0 x6_2).f1)) ∧ w'.cell? ⟨(ad613.add ((x6_2).toNat * 8)).block, (ad613.add ((x6_2).toNat * 8)).off + 2, none⟩ = some (.int .i64 ((rd_T25 l0 x6_2).f2)) ∧ w'.cell? ⟨(ad613.add ((x6_2).toNat * 8)).block, (ad613.add ((x6_2).toNat * 8)).off + 3, none⟩ = some (.int .i64 ((rd_T25 l0 x6_2).f3)) ∧ w'.cell? ⟨(ad613.add ((x6_2).toNat * 8)).block, (ad613.add ((x6_2).toNat * 8)).off + 4, none⟩ = some (.slice A614_4 ((rd_T25 l0 x6_2).f4).length c614_4) ∧ w'.cell? ⟨(ad613.add ((x6_2).toNat * 8)).block, (ad613.add ((x6_2).toNat * 8)).off + 5, none⟩ = some (.string ((rd_T25 l0 x6_2).f5)) ∧ w'.cell? ⟨(ad613.add ((x6_2).toNat * 8)).block, (ad613.add ((x6_2).toNat * 8)).off + 6, none⟩ = some (.string ((rd_T25 l0 x6_2).f6)) ∧ w'.cell? ⟨(ad613.add ((x6_2).toNat * 8)).block, (ad613.add ((x6_2).toNat * 8)).off + 7, none⟩ = some (.float .f64 ((rd_T25 l0 x6_2).f7))) (ds := []) (bm 9 0) (by kernel_rfl) rfl rfl ⟨((HB.out.cell (World.block_lt_of_cell? w _ hw613_0)).trans hw613_0), ((HB.out.cell (World.block_lt_of_cell? w _ hw613_1)).trans hw613_1), ((HB.out.cell (World.block_lt_of_cell? w _ hw613_2)).trans hw613_2), ((HB.out.cell (World.block_lt_of_cell? w _ hw613_3)).trans hw613_3), ((HB.out.cell (World.block_lt_of_cell? w _ hw613_4)).trans hw613_4), ((HB.out.cell (World.block_lt_of_cell? w _ hw613_5)).trans hw613_5), ((HB.out.cell (World.block_lt_of_cell? w _ hw613_6)).trans hw613_6), ((HB.out.cell (World.block_lt_of_cell? w _ hw613_7)).trans hw613_7), ((HB.out.cell (World.block_lt_of_cell? w _ hw614_0)).trans hw614_0), ((HB.out.cell (World.block_lt_of_cell? w _ hw614_1)).trans hw614_1), ((HB.out.cell (World.block_lt_of_cell? w _ hw614_2)).trans hw614_2), ((HB.out.cell (World.block_lt_of_cell? w _ hw614_3)).trans hw614_3), ((HB.out.cell (World.block_lt_of_cell? w _ hw614_4)).trans hw614_4), ((HB.out.cell (World.block_lt_of_cell? w _ hw614_5)).trans hw614_5), ((HB.out.cell (World.block_lt_of_cell? w _ hw614_6)).trans hw614_6), ((HB.out.cell (World.block_lt_of_cell? w _ hw614_7)).trans hw614_7)⟩ (fun hHeld => ?_); refine with_tabW endonymref6_Check.tab15 endonymref6_Check.bits15 (fun HT_ HW_ => ?_)
        generalize wr.drew = w17 at HB HR613_4 HR614_4 hx613_0 hx613_1 hx613_2 hx613_3 hx613_4 hx613_5 hx613_6 hx613_7 hx614_0 hx614_1 hx614_2 hx614_3 hx614_4 hx614_5 hx614_6 hx614_7 hHeld ⊢
        refine sqP 0 (some 37) (bm 9 1) ?_
        refine sqP 1 (some 38) (bm 9 3) ?_
        refine sqP 2 (some 39) (bm 9 7) ?_
        refine sqP 4 (some 41) (bm 9 23) ?_
        refine sqP 5 (some 42) (bm 9 55) ?_
        refine sqP 6 (some 43) (bm 9 119) ?_
        refine sqT 3 (some 40) (bm 9 127) ?_
        refine sqT 7 (some 44) (bm 9 255) ?_
        refine sqI 8 (some 45) (bm 9 511) (fun K hK => ?_)
        refine goes_ Tryz.func59 (by kernel_rfl) rfl #[.agg #[.int .i64 ((rd_T25 l0 x7_3).f0), .int .i64 ((rd_T25 l0 x7_3).f1), .int .i64 ((rd_T25 l0 x7_3).f2), .int .i64 ((rd_T25 l0 x7_3).f3), .slice A613_4 ((rd_T25 l0 x7_3).f4).length c613_4, .string ((rd_T25 l0 x7_3).f5), .string ((rd_T25 l0 x7_3).f6), .float .f64 ((rd_T25 l0 x7_3).f7)], .agg #[.int .i64 ((rd_T25 l0 x6_2).f0), .int .i64 ((rd_T25 l0 x6_2).f1), .int .i64 ((rd_T25 l0 x6_2).f2), .int .i64 ((rd_T25 l0 x6_2).f3), .slice A614_4 ((rd_T25 l0 x6_2).f4).length c614_4, .string ((rd_T25 l0 x6_2).f5), .string ((rd_T25 l0 x6_2).f6), .float .f64 ((rd_T25 l0 x6_2).f7)]] (by rfl) rfl rfl sqA ?_
        with_reducible refine (endonymref6_clash.calls k3 ((rd_T25 l0 x7_3).f0) ((rd_T25 l0 x7_3).f1) ((rd_T25 l0 x7_3).f2) ((rd_T25 l0 x7_3).f3) _ _ ((rd_T25 l0 x7_3).f4) ((rd_T25 l0 x7_3).f5) ((rd_T25 l0 x7_3).f6) ((rd_T25 l0 x7_3).f7) ((rd_T25 l0 x6_2).f0) ((rd_T25 l0 x6_2).f1) ((rd_T25 l0 x6_2).f2) ((rd_T25 l0 x6_2).f3) _ _ ((rd_T25 l0 x6_2).f4) ((rd_T25 l0 x6_2).f5) ((rd_T25 l0 x6_2).f6) ((rd_T25 l0 x6_2).f7) true _ ?side1 ?side2 ?side3 ?side4 A15.out).mono ?_
        (case side1 => exact sqC (Kd.C_below HR613_4.out HB.out))
        (case side2 => exact HC613_4.out)
        (case side3 => exact sqC (Kd.C_below HR614_4.out HB.out))
        (case side4 => exact HC614_4.out)
        rintro e w18 ⟨rfl, hb⟩
        refine ⟨_, rfl, ?_⟩
        have n0_ := Aside0.mk (below_step sqB hb)
        clear HB
        have HB := n0_
        clear n0_
        (try clear hb)
        (try clear hb2)
        (try clear hk)
        (try clear hi)
        refine hK.out _ _ ⟨((HB.out.cell (World.block_lt_of_cell? w _ hw613_0)).trans hw613_0), ((HB.out.cell (World.block_lt_of_cell? w _ hw613_1)).trans hw613_1), ((HB.out.cell (World.block_lt_of_cell? w _ hw613_2)).trans hw613_2), ((HB.out.cell (World.block_lt_of_cell? w _ hw613_3)).trans hw613_3), ((HB.out.cell (World.block_lt_of_cell? w _ hw613_4)).trans hw613_4), ((HB.out.cell (World.block_lt_of_cell? w _ hw613_5)).trans hw613_5), ((HB.out.cell (World.block_lt_of_cell? w _ hw613_6)).trans hw613_6), ((HB.out.cell (World.block_lt_of_cell? w _ hw613_7)).trans hw613_7), ((HB.out.cell (World.block_lt_of_cell? w _ hw614_0)).trans hw614_0), ((HB.out.cell (World.block_lt_of_cell? w _ hw614_1)).trans hw614_1), ((HB.out.cell (World.block_lt_of_cell? w _ hw614_2)).trans hw614_2), ((HB.out.cell (World.block_lt_of_cell? w _ hw614_3)).trans hw614_3), ((HB.out.cell (World.block_lt_of_cell? w _ hw614_4)).trans hw614_4), ((HB.out.cell (World.block_lt_of_cell? w _ hw614_5)).trans hw614_5), ((HB.out.cell (World.block_lt_of_cell? w _ hw614_6)).trans hw614_6), ((HB.out.cell (World.block_lt_of_cell? w _ hw614_7)).trans hw614_7)⟩ (fun hHeld => ?_)
        clear hK K
        refine sqN 45 ?_
        refine done_ (done_of HT_.out (by kernel_rfl)) ?_
        try go_wp2
        go_ret2
        exact ⟨sqE', sqB⟩
       replace c16 := Bool.eq_false_iff.mpr c16
       subst c16
       rw [if_neg (show ¬ (false = true) by decide)] at H
       have H' := Aside0.mk H
       clear H
       try go_wp2
       have n0_ := Aside0.mk (below_drew1 HB.out)
       clear HB
       have HB := n0_
       clear n0_
       have p613 : 0 ≤ (x7_3 : Int) := sqD
       have q613 : x7_3 < (l0.length : Int) := sqD
       obtain ⟨ad613, A613_4, c613_4, e613, hx613_0, hx613_1, hx613_2, hx613_3, hx613_4, hx613_5, hx613_6, hx613_7, hl613_4, hi613_4⟩ := at_T25 HR0.out x7_3 p613 q613
       have hw613_7 := hx613_7
       have hw613_6 := hx613_6
       have hw613_5 := hx613_5
       have hw613_4 := hx613_4
       have hw613_3 := hx613_3
       have hw613_2 := hx613_2
       have hw613_1 := hx613_1
       have hw613_0 := hx613_0
       cases e613
       replace hx613_0 := (HB.out.cell (World.block_lt_of_cell? w _ hx613_0)).trans hx613_0
       replace hx613_1 := (HB.out.cell (World.block_lt_of_cell? w _ hx613_1)).trans hx613_1
       replace hx613_2 := (HB.out.cell (World.block_lt_of_cell? w _ hx613_2)).trans hx613_2
       replace hx613_3 := (HB.out.cell (World.block_lt_of_cell? w _ hx613_3)).trans hx613_3
       replace hx613_4 := (HB.out.cell (World.block_lt_of_cell? w _ hx613_4)).trans hx613_4
       replace hx613_5 := (HB.out.cell (World.block_lt_of_cell? w _ hx613_5)).trans hx613_5
       replace hx613_6 := (HB.out.cell (World.block_lt_of_cell? w _ hx613_6)).trans hx613_6
       replace hx613_7 := (HB.out.cell (World.block_lt_of_cell? w _ hx613_7)).trans hx613_7
       have HR613_4 := Aside0.mk hi613_4
       have HC613_4 := Aside0.mk hl613_4
       clear hi613_4 hl613_4
       replace p613 := eq_true p613
       replace q613 := eq_true q613
       have p614 : 0 ≤ (x6_2 : Int) := sqD
       have q614 : x6_2 < (l0.length : Int) := sqD
       obtain ⟨ad614, A614_4, c614_4, e614, hx614_0, hx614_1, hx614_2, hx614_3, hx614_4, hx614_5, hx614_6, hx614_7, hl614_4, hi614_4⟩ := at_T25 HR0.out x6_2 p614 q614
       have hw614_7 := hx614_7
       have hw614_6 := hx614_6
       have hw614_5 := hx614_5
       have hw614_4 := hx614_4
       have hw614_3 := hx614_3
       have hw614_2 := hx614_2
       have hw614_1 := hx614_1
       have hw614_0 := hx614_0
       obtain rfl : ad613 = ad614 := (by injection e614)
       replace hx614_0 := (HB.out.cell (World.block_lt_of_cell? w _ hx614_0)).trans hx614_0
       replace hx614_1 := (HB.out.cell (World.block_lt_of_cell? w _ hx614_1)).trans hx614_1
       replace hx614_2 := (HB.out.cell (World.block_lt_of_cell? w _ hx614_2)).trans hx614_2
       replace hx614_3 := (HB.out.cell (World.block_lt_of_cell? w _ hx614_3)).trans hx614_3
       replace hx614_4 := (HB.out.cell (World.block_lt_of_cell? w _ hx614_4)).trans hx614_4
       replace hx614_5 := (HB.out.cell (World.block_lt_of_cell? w _ hx614_5)).trans hx614_5
       replace hx614_6 := (HB.out.cell (World.block_lt_of_cell? w _ hx614_6)).trans hx614_6
       replace hx614_7 := (HB.out.cell (World.block_lt_of_cell? w _ hx614_7)).trans hx614_7
       have HR614_4 := Aside0.mk hi614_4
       have HC614_4 := Aside0.mk hl614_4
       clear hi614_4 hl614_4
       replace p614 := eq_true p614
       replace q614 := eq_true q614
       refine start_ (n := 9) (S := fun w' => w'.cell? (ad613.add ((x7_3).toNat * 8)) = some (.int .i64 ((rd_T25 l0 x7_3).f0)) ∧ w'.cell? ⟨(ad613.add ((x7_3).toNat * 8)).block, (ad613.add ((x7_3).toNat * 8)).off + 1, none⟩ = some (.int .i64 ((rd_T25 l0 x7_3).f1)) ∧ w'.cell? ⟨(ad613.add ((x7_3).toNat * 8)).block, (ad613.add ((x7_3).toNat * 8)).off + 2, none⟩ = some (.int .i64 ((rd_T25 l0 x7_3).f2)) ∧ w'.cell? ⟨(ad613.add ((x7_3).toNat * 8)).block, (ad613.add ((x7_3).toNat * 8)).off + 3, none⟩ = some (.int .i64 ((rd_T25 l0 x7_3).f3)) ∧ w'.cell? ⟨(ad613.add ((x7_3).toNat * 8)).block, (ad613.add ((x7_3).toNat * 8)).off + 4, none⟩ = some (.slice A613_4 ((rd_T25 l0 x7_3).f4).length c613_4) ∧ w'.cell? ⟨(ad613.add ((x7_3).toNat * 8)).block, (ad613.add ((x7_3).toNat * 8)).off + 5, none⟩ = some (.string ((rd_T25 l0 x7_3).f5)) ∧ w'.cell? ⟨(ad613.add ((x7_3).toNat * 8)).block, (ad613.add ((x7_3).toNat * 8)).off + 6, none⟩ = some (.string ((rd_T25 l0 x7_3).f6)) ∧ w'.cell? ⟨(ad613.add ((x7_3).toNat * 8)).block, (ad613.add ((x7_3).toNat * 8)).off + 7, none⟩ = some (.float .f64 ((rd_T25 l0 x7_3).f7)) ∧ w'.cell? (ad613.add ((x6_2).toNat * 8)) = some (.int .i64 ((rd_T25 l0 x6_2).f0)) ∧ w'.cell? ⟨(ad613.add ((x6_2).toNat * 8)).block, (ad613.add ((x6_2).toNat * 8)).off + 1, none⟩ = some (.int .i64 ((rd_T25 l0 x6_2).f1)) ∧ w'.cell? ⟨(ad613.add ((x6_2).toNat * 8)).block, (ad613.add ((x6_2).toNat * 8)).off + 2, none⟩ = some (.int .i64 ((rd_T25 l0 x6_2).f2)) ∧ w'.cell? ⟨(ad613.add ((x6_2).toNat * 8)).block, (ad613.add ((x6_2).toNat * 8)).off + 3, none⟩ = some (.int .i64 ((rd_T25 l0 x6_2).f3)) ∧ w'.cell? ⟨(ad613.add ((x6_2).toNat * 8)).block, (ad613.add ((x6_2).toNat * 8)).off + 4, none⟩ = some (.slice A614_4 ((rd_T25 l0 x6_2).f4).length c614_4) ∧ w'.cell? ⟨(ad613.add ((x6_2).toNat * 8)).block, (ad613.add ((x6_2).toNat * 8)).off + 5, none⟩ = some (.string ((rd_T25 l0 x6_2).f5)) ∧ w'.cell? ⟨(ad613.add ((x6_2).toNat * 8)).block, (ad613.add ((x6_2).toNat * 8)).off + 6, none⟩ = some (.string ((rd_T25 l0 x6_2).f6)) ∧ w'.cell? ⟨(ad613.add ((x6_2).toNat * 8)).block, (ad613.add ((x6_2).toNat * 8)).off + 7, none⟩ = some (.float .f64 ((rd_T25 l0 x6_2).f7))) (ds := []) (bm 9 0) (by kernel_rfl) rfl rfl ⟨((HB.out.cell (World.block_lt_of_cell? w _ hw613_0)).trans hw613_0), ((HB.out.cell (World.block_lt_of_cell? w _ hw613_1)).trans hw613_1), ((HB.out.cell (World.block_lt_of_cell? w _ hw613_2)).trans hw613_2), ((HB.out.cell (World.block_lt_of_cell? w _ hw613_3)).trans hw613_3), ((HB.out.cell (World.block_lt_of_cell? w _ hw613_4)).trans hw613_4), ((HB.out.cell (World.block_lt_of_cell? w _ hw613_5)).trans hw613_5), ((HB.out.cell (World.block_lt_of_cell? w _ hw613_6)).trans hw613_6), ((HB.out.cell (World.block_lt_of_cell? w _ hw613_7)).trans hw613_7), ((HB.out.cell (World.block_lt_of_cell? w _ hw614_0)).trans hw614_0), ((HB.out.cell (World.block_lt_of_cell? w _ hw614_1)).trans hw614_1), ((HB.out.cell (World.block_lt_of_cell? w _ hw614_2)).trans hw614_2), ((HB.out.cell (World.block_lt_of_cell? w _ hw614_3)).trans hw614_3), ((HB.out.cell (World.block_lt_of_cell? w _ hw614_4)).trans hw614_4), ((HB.out.cell (World.block_lt_of_cell? w _ hw614_5)).trans hw614_5), ((HB.out.cell (World.block_lt_of_cell? w _ hw614_6)).trans hw614_6), ((HB.out.cell (World.block_lt_of_cell? w _ hw614_7)).trans hw614_7)⟩ (fun hHeld => ?_); refine with_tabW endonymref6_Check.tab15 endonymref6_Check.bits15 (fun HT_ HW_ => ?_)
       generalize wr.drew = w19 at HB HR613_4 HR614_4 hx613_0 hx613_1 hx613_2 hx613_3 hx613_4 hx613_5 hx613_6 hx613_7 hx614_0 hx614_1 hx614_2 hx614_3 hx614_4 hx614_5 hx614_6 hx614_7 hHeld ⊢
       refine sqP 0 (some 37) (bm 9 1) ?_
       refine sqP 1 (some 38) (bm 9 3) ?_
       refine sqP 2 (some 39) (bm 9 7) ?_
       refine sqP 4 (some 41) (bm 9 23) ?_
       refine sqP 5 (some 42) (bm 9 55) ?_
       refine sqP 6 (some 43) (bm 9 119) ?_
       refine sqT 3 (some 40) (bm 9 127) ?_
       refine sqT 7 (some 44) (bm 9 255) ?_
       refine sqI 8 (some 45) (bm 9 511) (fun K hK => ?_)
       refine goes_ Tryz.func59 (by kernel_rfl) rfl #[.agg #[.int .i64 ((rd_T25 l0 x7_3).f0), .int .i64 ((rd_T25 l0 x7_3).f1), .int .i64 ((rd_T25 l0 x7_3).f2), .int .i64 ((rd_T25 l0 x7_3).f3), .slice A613_4 ((rd_T25 l0 x7_3).f4).length c613_4, .string ((rd_T25 l0 x7_3).f5), .string ((rd_T25 l0 x7_3).f6), .float .f64 ((rd_T25 l0 x7_3).f7)], .agg #[.int .i64 ((rd_T25 l0 x6_2).f0), .int .i64 ((rd_T25 l0 x6_2).f1), .int .i64 ((rd_T25 l0 x6_2).f2), .int .i64 ((rd_T25 l0 x6_2).f3), .slice A614_4 ((rd_T25 l0 x6_2).f4).length c614_4, .string ((rd_T25 l0 x6_2).f5), .string ((rd_T25 l0 x6_2).f6), .float .f64 ((rd_T25 l0 x6_2).f7)]] (by rfl) rfl rfl sqA ?_
       with_reducible refine (endonymref6_clash.calls k3 ((rd_T25 l0 x7_3).f0) ((rd_T25 l0 x7_3).f1) ((rd_T25 l0 x7_3).f2) ((rd_T25 l0 x7_3).f3) _ _ ((rd_T25 l0 x7_3).f4) ((rd_T25 l0 x7_3).f5) ((rd_T25 l0 x7_3).f6) ((rd_T25 l0 x7_3).f7) ((rd_T25 l0 x6_2).f0) ((rd_T25 l0 x6_2).f1) ((rd_T25 l0 x6_2).f2) ((rd_T25 l0 x6_2).f3) _ _ ((rd_T25 l0 x6_2).f4) ((rd_T25 l0 x6_2).f5) ((rd_T25 l0 x6_2).f6) ((rd_T25 l0 x6_2).f7) false _ ?side1 ?side2 ?side3 ?side4 A15.out).mono ?_
       (case side1 => exact sqC (Kd.C_below HR613_4.out HB.out))
       (case side2 => exact HC613_4.out)
       (case side3 => exact sqC (Kd.C_below HR614_4.out HB.out))
       (case side4 => exact HC614_4.out)
       rintro e w20 ⟨rfl, hb⟩
       refine ⟨_, rfl, ?_⟩
       have n0_ := Aside0.mk (below_step sqB hb)
       clear HB
       have HB := n0_
       clear n0_
       (try clear hb)
       (try clear hb2)
       (try clear hk)
       (try clear hi)
       refine hK.out _ _ ⟨((HB.out.cell (World.block_lt_of_cell? w _ hw613_0)).trans hw613_0), ((HB.out.cell (World.block_lt_of_cell? w _ hw613_1)).trans hw613_1), ((HB.out.cell (World.block_lt_of_cell? w _ hw613_2)).trans hw613_2), ((HB.out.cell (World.block_lt_of_cell? w _ hw613_3)).trans hw613_3), ((HB.out.cell (World.block_lt_of_cell? w _ hw613_4)).trans hw613_4), ((HB.out.cell (World.block_lt_of_cell? w _ hw613_5)).trans hw613_5), ((HB.out.cell (World.block_lt_of_cell? w _ hw613_6)).trans hw613_6), ((HB.out.cell (World.block_lt_of_cell? w _ hw613_7)).trans hw613_7), ((HB.out.cell (World.block_lt_of_cell? w _ hw614_0)).trans hw614_0), ((HB.out.cell (World.block_lt_of_cell? w _ hw614_1)).trans hw614_1), ((HB.out.cell (World.block_lt_of_cell? w _ hw614_2)).trans hw614_2), ((HB.out.cell (World.block_lt_of_cell? w _ hw614_3)).trans hw614_3), ((HB.out.cell (World.block_lt_of_cell? w _ hw614_4)).trans hw614_4), ((HB.out.cell (World.block_lt_of_cell? w _ hw614_5)).trans hw614_5), ((HB.out.cell (World.block_lt_of_cell? w _ hw614_6)).trans hw614_6), ((HB.out.cell (World.block_lt_of_cell? w _ hw614_7)).trans hw614_7)⟩ (fun hHeld => ?_)
       clear hK K
       refine sqN 45 ?_
       refine done_ (done_of HT_.out (by kernel_rfl)) ?_
       try go_wp2
       go_roundg k3
       case measure => have := HK1.out; have := HK2.out; have := HK3.out; omega
       case rel => exact ⟨(wrap64 (x7_3 + 1)), sqE, H', ⟨by have := HK1.out; have := HK2.out; have := HK3.out; omega⟩, ⟨sqB⟩⟩
noncomputable def endonymlaw6_TableChecks.f (k : Nat) (l0 : List (S25)) : Option (Bool) := (endonymlaw6_few.f k l0 120).bind fun t616 => ((table_Check.f k t616).bind fun bt619 => (if 0 ≤ (t616.length : Int) then (if (t616.length : Int) ≤ (l0.length : Int) then ((endonymref6_Check.f k (l0.take ((t616.length : Int) : Int).toNat)).bind fun bt625 => ((endonymlaw6_told.f).bind fun t627 => (if t627 = true then (if bt619.1 = bt625.1 then (if bt619.2 = bt625.2 then ((endonymlaw6_whole.f k t616 l0).bind fun t628 => (some t628)) else (some false)) else (some false)) else (some false)))) else (none)) else (none)))
theorem endonymlaw6_TableChecks.mono : ∀ a0 k, LeO (endonymlaw6_TableChecks.f k a0) (endonymlaw6_TableChecks.f (k + 1) a0) := by
 intro a0 k
 unfold endonymlaw6_TableChecks.f
 repeat' first | (with_reducible first | apply endonymlaw6_few.mono | apply endonymlaw6_whole.mono | apply endonymref6_Check.mono | apply table_Check.mono | apply LeO.refl | apply LeO.none | refine LeO.ite ?_ ?_ | refine LeO.bind ?_ (fun _ => ?_)) | apply LeO.none | refine LeO.ite ?_ ?_ | refine LeO.bind ?_ (fun _ => ?_)
theorem endonymlaw6_TableChecks.calls (k : Nat) (A0 : Option Addr) (c0 : Nat) (l0 : List (S25)) (r : Bool) (w : World) (htab : Aside0 (Rm.Tab w)) (hr0 : Kd.C k25 w A0 l0.length l0) (hc0 : l0.length ≤ c0) (h : endonymlaw6_TableChecks.f k l0 = some r) :
  Calls Tryz.prog 4 #[.slice A0 l0.length c0] w fun e w' => e = .returned (.bool r) ∧ Below w.heap.size w w' := by
 have HR0 := Aside0.mk hr0
 have HC0 := Aside0.mk hc0
 clear hr0 hc0
 have HB := Aside0.mk (Below.refl w.heap.size w)
 have H : ((endonymlaw6_few.f k l0 120).bind fun t616 => ((table_Check.f k t616).bind fun bt619 => (if 0 ≤ (t616.length : Int) then (if (t616.length : Int) ≤ (l0.length : Int) then ((endonymref6_Check.f k (l0.take ((t616.length : Int) : Int).toNat)).bind fun bt625 => ((endonymlaw6_told.f).bind fun t627 => (if t627 = true then (if bt619.1 = bt625.1 then (if bt619.2 = bt625.2 then ((endonymlaw6_whole.f k t616 l0).bind fun t628 => (some t628)) else (some false)) else (some false)) else (some false)))) else (none)) else (none)))) = some r := h
 clear h
 obtain ⟨t616, A2, H⟩ := sqO H
 try dsimp only at H
 obtain ⟨⟨t619, t620⟩, A3, H⟩ := sqO H
 try dsimp only at H
 by_cases c4 : 0 ≤ (t616.length : Int)
 case neg => rw [if_neg c4] at H; exact absurd H (by simp)
 rw [if_pos c4] at H
 have c4b0 := eq_true c4
 have c4b1 := decide_eq_true c4
 clear c4
 by_cases c5 : (t616.length : Int) ≤ (l0.length : Int)
 case neg => rw [if_neg c5] at H; exact absurd H (by simp)
 rw [if_pos c5] at H
 have c5b0 := eq_true c5
 have c5b1 := decide_eq_true c5
 clear c5
 obtain ⟨y621, hy621⟩ : ∃ y_ : List (S25), y_ = (l0.take ((t616.length : Int) : Int).toNat) := ⟨_, rfl⟩
 replace H : ((endonymref6_Check.f k y621).bind fun bt625 => ((endonymlaw6_told.f).bind fun t627 => (if t627 = true then (if t619 = bt625.1 then (if t620 = bt625.2 then ((endonymlaw6_whole.f k t616 l0).bind fun t628 => (some t628)) else (some false)) else (some false)) else (some false)))) = some r := by first | (rw [hy621]; with_reducible exact H) | (have H2_ := (Option.bind_some _ _).symm.trans H; rw [hy621]; with_reducible exact H2_) | (have H2_ := (Option.bind_some _ _).symm.trans H; with_reducible exact H2_) | with_reducible exact H | (rw [hy621]; exact H) | exact H
 have Ny621 := Aside0.mk hy621
 clear hy621
 obtain ⟨⟨t625, t626⟩, A6, H⟩ := sqO H
 try dsimp only at H
 obtain ⟨t627, A7, H⟩ := sqO H
 try dsimp only at H
 by_cases c8 : t627 = true
 case neg =>
  replace c8 := Bool.eq_false_iff.mpr c8
  subst c8
  rw [if_neg (show ¬ (false = true) by decide)] at H
  obtain rfl := Option.some.inj H
  go_enter Tryz.func4, Tryz.ntmps4
  go_wp2_with (first | ((with_reducible refine gate_callee (f := 14) rfl ?_); refine goesL_ (some 9) rfl rfl Tryz.func14 (by kernel_rfl) rfl #[.slice A0 l0.length c0, .int .i64 120] rfl sqA ?_; (with_reducible refine (endonymlaw6_few.calls k _ _ l0 120 t616 _ ?side1 ?side2 A2.out).mono ?_); (case side1 => repeat (first | exact HR0.out | (with_reducible refine Kd.C_alloc ?_ _) | (with_reducible refine Kd.C_drewN ?_ _) | (with_reducible refine Kd.C_drew ?_))); (case side2 => exact HC0.out); rintro e w31 ⟨v617, rfl, ho0, hb⟩; refine ⟨_, rfl, ?_⟩; have n0_ := Aside0.mk (FewS_lower ho0 (below_size sqB)); have n1_ := Aside0.mk (below_step sqB hb); clear HB; have HO618 := n0_; have HB := n1_; clear n0_ n1_; (try clear hb); (try clear hb2); (try clear hk); (try clear hi); (try clear ho0); obtain ⟨Ao32, co32, eo32⟩ := Kd.S_slice HO618.out.1; subst eo32) | ((with_reducible refine gate_callee (f := 21) rfl ?_); refine goesL_ (some 12) rfl rfl Tryz.func21 (by kernel_rfl) rfl #[.slice Ao32 t616.length co32] rfl sqA ?_; (with_reducible refine (table_Check.calls k _ _ t616 t619 t620 _ ?side1 ?side2 A3.out).mono ?_); (case side1 => repeat (first | exact (Kd.S_reads' HO618.out.1).2.2 | (with_reducible refine Kd.C_alloc ?_ _) | (with_reducible refine Kd.C_drewN ?_ _) | (with_reducible refine Kd.C_drew ?_))); (case side2 => exact (Kd.S_reads' HO618.out.1).2.1); rintro e w33 ⟨rfl, hb⟩; refine ⟨_, rfl, ?_⟩; have n0_ := Aside0.mk (FewS_below (by (with_reducible repeat (first | apply FewS_alloc | apply FewS_drewN | apply FewS_drew)); exact HO618.out) hb); have n1_ := Aside0.mk (below_step sqB hb); clear HO618; clear HB; have HO618 := n0_; have HB := n1_; clear n0_ n1_; (try clear hb); (try clear hb2); (try clear hk); (try clear hi); have q34 : ((t616.length : Int) : Int) ≤ ((l0.length : Int) : Int) := sqD; obtain ⟨i034, hi034, _, hsz34, _⟩ := info_parts info25; have hroom34 : l0.length ≤ c0 := HC0.out; have hC34 : Kd.C k25 _ A0 l0.length l0 := HR0.out; have hcut34 := cut_to (P := Tryz.prog) 26 25 .i64 Tryz.underlying26 hi034 A0 l0.length c0 (t616.length : Int) sqD q34 hroom34; have hr34 := Kd.C_take (m := ((t616.length : Int) : Int).toNat) hC34 (by omega); have hy34 : y621.length = ((t616.length : Int) : Int).toNat := (by rw [Ny621.out, List.length_take]; omega); rw [← Ny621.out] at hr34; rw [← hy34] at hcut34; have HR624 := Aside0.mk hr34; have HC624 := Aside0.mk (show y621.length ≤ c0 from by omega); clear hr34 hC34 hroom34 hi034 hsz34; have KY34 := Aside0.mk hy34; clear hy34; replace q34 := eq_true q34) | ((with_reducible refine gate_callee (f := 22) rfl ?_); refine goesL_ (some 20) rfl rfl Tryz.func22 (by kernel_rfl) rfl #[.slice A0 y621.length c0] rfl sqA ?_; (with_reducible refine (endonymref6_Check.calls k _ _ y621 t625 t626 _ ?side1 ?side2 A6.out).mono ?_); (case side1 => exact sqC (Kd.C_below HR624.out HB.out)); (case side2 => exact HC624.out); rintro e w35 ⟨rfl, hb⟩; refine ⟨_, rfl, ?_⟩; have n0_ := Aside0.mk (FewS_below (by (with_reducible repeat (first | apply FewS_alloc | apply FewS_drewN | apply FewS_drew)); exact HO618.out) hb); have n1_ := Aside0.mk (below_step sqB hb); clear HO618; clear HB; have HO618 := n0_; have HB := n1_; clear n0_ n1_; (try clear hb); (try clear hb2); (try clear hk); (try clear hi)) | ((with_reducible refine gate_callee (f := 18) rfl ?_); refine goesL_ (some 23) rfl rfl Tryz.func18 (by kernel_rfl) rfl #[] rfl sqA ?_; (with_reducible refine (endonymlaw6_told.calls  false _ ⟨htab.out.below sqB⟩ A7.out).mono ?_); rintro e w36 ⟨rfl, hb⟩; refine ⟨_, rfl, ?_⟩; have n0_ := Aside0.mk (FewS_below (by (with_reducible repeat (first | apply FewS_alloc | apply FewS_drewN | apply FewS_drew)); exact HO618.out) hb); have n1_ := Aside0.mk (below_step sqB hb); clear HO618; clear HB; have HO618 := n0_; have HB := n1_; clear n0_ n1_; (try clear hb); (try clear hb2); (try clear hk); (try clear hi)))
  go_ret
  exact ⟨sqE', sqB⟩
 subst c8
 rw [if_pos rfl] at H
 by_cases c9 : t619 = t625
 case neg =>
  rw [if_neg c9] at H
  have c9b0 := beq_eq_false_iff_ne.mpr c9
  have c9b1 := bne_iff_ne.mpr c9
  obtain rfl := Option.some.inj H
  go_enter Tryz.func4, Tryz.ntmps4
  go_wp2_with (first | ((with_reducible refine gate_callee (f := 14) rfl ?_); refine goesL_ (some 9) rfl rfl Tryz.func14 (by kernel_rfl) rfl #[.slice A0 l0.length c0, .int .i64 120] rfl sqA ?_; (with_reducible refine (endonymlaw6_few.calls k _ _ l0 120 t616 _ ?side1 ?side2 A2.out).mono ?_); (case side1 => repeat (first | exact HR0.out | (with_reducible refine Kd.C_alloc ?_ _) | (with_reducible refine Kd.C_drewN ?_ _) | (with_reducible refine Kd.C_drew ?_))); (case side2 => exact HC0.out); rintro e w25 ⟨v617, rfl, ho0, hb⟩; refine ⟨_, rfl, ?_⟩; have n0_ := Aside0.mk (FewS_lower ho0 (below_size sqB)); have n1_ := Aside0.mk (below_step sqB hb); clear HB; have HO618 := n0_; have HB := n1_; clear n0_ n1_; (try clear hb); (try clear hb2); (try clear hk); (try clear hi); (try clear ho0); obtain ⟨Ao26, co26, eo26⟩ := Kd.S_slice HO618.out.1; subst eo26) | ((with_reducible refine gate_callee (f := 21) rfl ?_); refine goesL_ (some 12) rfl rfl Tryz.func21 (by kernel_rfl) rfl #[.slice Ao26 t616.length co26] rfl sqA ?_; (with_reducible refine (table_Check.calls k _ _ t616 t619 t620 _ ?side1 ?side2 A3.out).mono ?_); (case side1 => repeat (first | exact (Kd.S_reads' HO618.out.1).2.2 | (with_reducible refine Kd.C_alloc ?_ _) | (with_reducible refine Kd.C_drewN ?_ _) | (with_reducible refine Kd.C_drew ?_))); (case side2 => exact (Kd.S_reads' HO618.out.1).2.1); rintro e w27 ⟨rfl, hb⟩; refine ⟨_, rfl, ?_⟩; have n0_ := Aside0.mk (FewS_below (by (with_reducible repeat (first | apply FewS_alloc | apply FewS_drewN | apply FewS_drew)); exact HO618.out) hb); have n1_ := Aside0.mk (below_step sqB hb); clear HO618; clear HB; have HO618 := n0_; have HB := n1_; clear n0_ n1_; (try clear hb); (try clear hb2); (try clear hk); (try clear hi); have q28 : ((t616.length : Int) : Int) ≤ ((l0.length : Int) : Int) := sqD; obtain ⟨i028, hi028, _, hsz28, _⟩ := info_parts info25; have hroom28 : l0.length ≤ c0 := HC0.out; have hC28 : Kd.C k25 _ A0 l0.length l0 := HR0.out; have hcut28 := cut_to (P := Tryz.prog) 26 25 .i64 Tryz.underlying26 hi028 A0 l0.length c0 (t616.length : Int) sqD q28 hroom28; have hr28 := Kd.C_take (m := ((t616.length : Int) : Int).toNat) hC28 (by omega); have hy28 : y621.length = ((t616.length : Int) : Int).toNat := (by rw [Ny621.out, List.length_take]; omega); rw [← Ny621.out] at hr28; rw [← hy28] at hcut28; have HR624 := Aside0.mk hr28; have HC624 := Aside0.mk (show y621.length ≤ c0 from by omega); clear hr28 hC28 hroom28 hi028 hsz28; have KY28 := Aside0.mk hy28; clear hy28; replace q28 := eq_true q28) | ((with_reducible refine gate_callee (f := 22) rfl ?_); refine goesL_ (some 20) rfl rfl Tryz.func22 (by kernel_rfl) rfl #[.slice A0 y621.length c0] rfl sqA ?_; (with_reducible refine (endonymref6_Check.calls k _ _ y621 t625 t626 _ ?side1 ?side2 A6.out).mono ?_); (case side1 => exact sqC (Kd.C_below HR624.out HB.out)); (case side2 => exact HC624.out); rintro e w29 ⟨rfl, hb⟩; refine ⟨_, rfl, ?_⟩; have n0_ := Aside0.mk (FewS_below (by (with_reducible repeat (first | apply FewS_alloc | apply FewS_drewN | apply FewS_drew)); exact HO618.out) hb); have n1_ := Aside0.mk (below_step sqB hb); clear HO618; clear HB; have HO618 := n0_; have HB := n1_; clear n0_ n1_; (try clear hb); (try clear hb2); (try clear hk); (try clear hi)) | ((with_reducible refine gate_callee (f := 18) rfl ?_); refine goesL_ (some 23) rfl rfl Tryz.func18 (by kernel_rfl) rfl #[] rfl sqA ?_; (with_reducible refine (endonymlaw6_told.calls  true _ ⟨htab.out.below sqB⟩ A7.out).mono ?_); rintro e w30 ⟨rfl, hb⟩; refine ⟨_, rfl, ?_⟩; have n0_ := Aside0.mk (FewS_below (by (with_reducible repeat (first | apply FewS_alloc | apply FewS_drewN | apply FewS_drew)); exact HO618.out) hb); have n1_ := Aside0.mk (below_step sqB hb); clear HO618; clear HB; have HO618 := n0_; have HB := n1_; clear n0_ n1_; (try clear hb); (try clear hb2); (try clear hk); (try clear hi)))
  go_ret
  exact ⟨sqE', sqB⟩
 rw [if_pos c9] at H
 have c9b0 := beq_iff_eq.mpr c9
 have c9b1 := bne_eq_false_iff_eq.mpr c9
 clear c9
 by_cases c10 : t620 = t626
 case neg =>
  rw [if_neg c10] at H
  have c10b0 := beq_eq_false_iff_ne.mpr c10
  have c10b1 := bne_iff_ne.mpr c10
  obtain rfl := Option.some.inj H
  go_enter Tryz.func4, Tryz.ntmps4
  go_wp2_with (first | ((with_reducible refine gate_callee (f := 14) rfl ?_); refine goesL_ (some 9) rfl rfl Tryz.func14 (by kernel_rfl) rfl #[.slice A0 l0.length c0, .int .i64 120] rfl sqA ?_; (with_reducible refine (endonymlaw6_few.calls k _ _ l0 120 t616 _ ?side1 ?side2 A2.out).mono ?_); (case side1 => repeat (first | exact HR0.out | (with_reducible refine Kd.C_alloc ?_ _) | (with_reducible refine Kd.C_drewN ?_ _) | (with_reducible refine Kd.C_drew ?_))); (case side2 => exact HC0.out); rintro e w19 ⟨v617, rfl, ho0, hb⟩; refine ⟨_, rfl, ?_⟩; have n0_ := Aside0.mk (FewS_lower ho0 (below_size sqB)); have n1_ := Aside0.mk (below_step sqB hb); clear HB; have HO618 := n0_; have HB := n1_; clear n0_ n1_; (try clear hb); (try clear hb2); (try clear hk); (try clear hi); (try clear ho0); obtain ⟨Ao20, co20, eo20⟩ := Kd.S_slice HO618.out.1; subst eo20) | ((with_reducible refine gate_callee (f := 21) rfl ?_); refine goesL_ (some 12) rfl rfl Tryz.func21 (by kernel_rfl) rfl #[.slice Ao20 t616.length co20] rfl sqA ?_; (with_reducible refine (table_Check.calls k _ _ t616 t619 t620 _ ?side1 ?side2 A3.out).mono ?_); (case side1 => repeat (first | exact (Kd.S_reads' HO618.out.1).2.2 | (with_reducible refine Kd.C_alloc ?_ _) | (with_reducible refine Kd.C_drewN ?_ _) | (with_reducible refine Kd.C_drew ?_))); (case side2 => exact (Kd.S_reads' HO618.out.1).2.1); rintro e w21 ⟨rfl, hb⟩; refine ⟨_, rfl, ?_⟩; have n0_ := Aside0.mk (FewS_below (by (with_reducible repeat (first | apply FewS_alloc | apply FewS_drewN | apply FewS_drew)); exact HO618.out) hb); have n1_ := Aside0.mk (below_step sqB hb); clear HO618; clear HB; have HO618 := n0_; have HB := n1_; clear n0_ n1_; (try clear hb); (try clear hb2); (try clear hk); (try clear hi); have q22 : ((t616.length : Int) : Int) ≤ ((l0.length : Int) : Int) := sqD; obtain ⟨i022, hi022, _, hsz22, _⟩ := info_parts info25; have hroom22 : l0.length ≤ c0 := HC0.out; have hC22 : Kd.C k25 _ A0 l0.length l0 := HR0.out; have hcut22 := cut_to (P := Tryz.prog) 26 25 .i64 Tryz.underlying26 hi022 A0 l0.length c0 (t616.length : Int) sqD q22 hroom22; have hr22 := Kd.C_take (m := ((t616.length : Int) : Int).toNat) hC22 (by omega); have hy22 : y621.length = ((t616.length : Int) : Int).toNat := (by rw [Ny621.out, List.length_take]; omega); rw [← Ny621.out] at hr22; rw [← hy22] at hcut22; have HR624 := Aside0.mk hr22; have HC624 := Aside0.mk (show y621.length ≤ c0 from by omega); clear hr22 hC22 hroom22 hi022 hsz22; have KY22 := Aside0.mk hy22; clear hy22; replace q22 := eq_true q22) | ((with_reducible refine gate_callee (f := 22) rfl ?_); refine goesL_ (some 20) rfl rfl Tryz.func22 (by kernel_rfl) rfl #[.slice A0 y621.length c0] rfl sqA ?_; (with_reducible refine (endonymref6_Check.calls k _ _ y621 t625 t626 _ ?side1 ?side2 A6.out).mono ?_); (case side1 => exact sqC (Kd.C_below HR624.out HB.out)); (case side2 => exact HC624.out); rintro e w23 ⟨rfl, hb⟩; refine ⟨_, rfl, ?_⟩; have n0_ := Aside0.mk (FewS_below (by (with_reducible repeat (first | apply FewS_alloc | apply FewS_drewN | apply FewS_drew)); exact HO618.out) hb); have n1_ := Aside0.mk (below_step sqB hb); clear HO618; clear HB; have HO618 := n0_; have HB := n1_; clear n0_ n1_; (try clear hb); (try clear hb2); (try clear hk); (try clear hi)) | ((with_reducible refine gate_callee (f := 18) rfl ?_); refine goesL_ (some 23) rfl rfl Tryz.func18 (by kernel_rfl) rfl #[] rfl sqA ?_; (with_reducible refine (endonymlaw6_told.calls  true _ ⟨htab.out.below sqB⟩ A7.out).mono ?_); rintro e w24 ⟨rfl, hb⟩; refine ⟨_, rfl, ?_⟩; have n0_ := Aside0.mk (FewS_below (by (with_reducible repeat (first | apply FewS_alloc | apply FewS_drewN | apply FewS_drew)); exact HO618.out) hb); have n1_ := Aside0.mk (below_step sqB hb); clear HO618; clear HB; have HO618 := n0_; have HB := n1_; clear n0_ n1_; (try clear hb); (try clear hb2); (try clear hk); (try clear hi)))
  go_ret
  exact ⟨sqE', sqB⟩
 rw [if_pos c10] at H
 have c10b0 := beq_iff_eq.mpr c10
 have c10b1 := bne_eq_false_iff_eq.mpr c10
 clear c10
 obtain ⟨t628, A11, H⟩ := sqO H
 try dsimp only at H
 obtain rfl := Option.some.inj H
 go_enter Tryz.func4, Tryz.ntmps4
 go_wp2_with (first | ((with_reducible refine gate_callee (f := 14) rfl ?_); refine goesL_ (some 9) rfl rfl Tryz.func14 (by kernel_rfl) rfl #[.slice A0 l0.length c0, .int .i64 120] rfl sqA ?_; (with_reducible refine (endonymlaw6_few.calls k _ _ l0 120 t616 _ ?side1 ?side2 A2.out).mono ?_); (case side1 => repeat (first | exact HR0.out | (with_reducible refine Kd.C_alloc ?_ _) | (with_reducible refine Kd.C_drewN ?_ _) | (with_reducible refine Kd.C_drew ?_))); (case side2 => exact HC0.out); rintro e w12 ⟨v617, rfl, ho0, hb⟩; refine ⟨_, rfl, ?_⟩; have n0_ := Aside0.mk (FewS_lower ho0 (below_size sqB)); have n1_ := Aside0.mk (below_step sqB hb); clear HB; have HO618 := n0_; have HB := n1_; clear n0_ n1_; (try clear hb); (try clear hb2); (try clear hk); (try clear hi); (try clear ho0); obtain ⟨Ao13, co13, eo13⟩ := Kd.S_slice HO618.out.1; subst eo13) | ((with_reducible refine gate_callee (f := 21) rfl ?_); refine goesL_ (some 12) rfl rfl Tryz.func21 (by kernel_rfl) rfl #[.slice Ao13 t616.length co13] rfl sqA ?_; (with_reducible refine (table_Check.calls k _ _ t616 t619 t620 _ ?side1 ?side2 A3.out).mono ?_); (case side1 => repeat (first | exact (Kd.S_reads' HO618.out.1).2.2 | (with_reducible refine Kd.C_alloc ?_ _) | (with_reducible refine Kd.C_drewN ?_ _) | (with_reducible refine Kd.C_drew ?_))); (case side2 => exact (Kd.S_reads' HO618.out.1).2.1); rintro e w14 ⟨rfl, hb⟩; refine ⟨_, rfl, ?_⟩; have n0_ := Aside0.mk (FewS_below (by (with_reducible repeat (first | apply FewS_alloc | apply FewS_drewN | apply FewS_drew)); exact HO618.out) hb); have n1_ := Aside0.mk (below_step sqB hb); clear HO618; clear HB; have HO618 := n0_; have HB := n1_; clear n0_ n1_; (try clear hb); (try clear hb2); (try clear hk); (try clear hi); have q15 : ((t616.length : Int) : Int) ≤ ((l0.length : Int) : Int) := sqD; obtain ⟨i015, hi015, _, hsz15, _⟩ := info_parts info25; have hroom15 : l0.length ≤ c0 := HC0.out; have hC15 : Kd.C k25 _ A0 l0.length l0 := HR0.out; have hcut15 := cut_to (P := Tryz.prog) 26 25 .i64 Tryz.underlying26 hi015 A0 l0.length c0 (t616.length : Int) sqD q15 hroom15; have hr15 := Kd.C_take (m := ((t616.length : Int) : Int).toNat) hC15 (by omega); have hy15 : y621.length = ((t616.length : Int) : Int).toNat := (by rw [Ny621.out, List.length_take]; omega); rw [← Ny621.out] at hr15; rw [← hy15] at hcut15; have HR624 := Aside0.mk hr15; have HC624 := Aside0.mk (show y621.length ≤ c0 from by omega); clear hr15 hC15 hroom15 hi015 hsz15; have KY15 := Aside0.mk hy15; clear hy15; replace q15 := eq_true q15) | ((with_reducible refine gate_callee (f := 22) rfl ?_); refine goesL_ (some 20) rfl rfl Tryz.func22 (by kernel_rfl) rfl #[.slice A0 y621.length c0] rfl sqA ?_; (with_reducible refine (endonymref6_Check.calls k _ _ y621 t625 t626 _ ?side1 ?side2 A6.out).mono ?_); (case side1 => exact sqC (Kd.C_below HR624.out HB.out)); (case side2 => exact HC624.out); rintro e w16 ⟨rfl, hb⟩; refine ⟨_, rfl, ?_⟩; have n0_ := Aside0.mk (FewS_below (by (with_reducible repeat (first | apply FewS_alloc | apply FewS_drewN | apply FewS_drew)); exact HO618.out) hb); have n1_ := Aside0.mk (below_step sqB hb); clear HO618; clear HB; have HO618 := n0_; have HB := n1_; clear n0_ n1_; (try clear hb); (try clear hb2); (try clear hk); (try clear hi)) | ((with_reducible refine gate_callee (f := 18) rfl ?_); refine goesL_ (some 23) rfl rfl Tryz.func18 (by kernel_rfl) rfl #[] rfl sqA ?_; (with_reducible refine (endonymlaw6_told.calls  true _ ⟨htab.out.below sqB⟩ A7.out).mono ?_); rintro e w17 ⟨rfl, hb⟩; refine ⟨_, rfl, ?_⟩; have n0_ := Aside0.mk (FewS_below (by (with_reducible repeat (first | apply FewS_alloc | apply FewS_drewN | apply FewS_drew)); exact HO618.out) hb); have n1_ := Aside0.mk (below_step sqB hb); clear HO618; clear HB; have HO618 := n0_; have HB := n1_; clear n0_ n1_; (try clear hb); (try clear hb2); (try clear hk); (try clear hi)) | (go_at_call 20; (with_reducible refine (endonymlaw6_whole.calls k _ _ t616 _ _ l0 t628 _ ?side1 ?side2 ?side3 ?side4 ?sideF A11.out).mono ?_); (case side1 => repeat (first | exact (Kd.S_reads' HO618.out.1).2.2 | (with_reducible refine Kd.C_alloc ?_ _) | (with_reducible refine Kd.C_drewN ?_ _) | (with_reducible refine Kd.C_drew ?_))); (case side2 => exact (Kd.S_reads' HO618.out.1).2.1); (case side3 => exact sqC (Kd.C_below HR0.out HB.out)); (case side4 => exact HC0.out); (case sideF => exact (show FewS _ w.heap.size _ _ from by (with_reducible repeat (first | apply FewS_alloc | apply FewS_drewN | apply FewS_drew)); exact HO618.out).2); rintro e w18 ⟨rfl, hb⟩; have n0_ := Aside0.mk (FewS_below (by (with_reducible repeat (first | apply FewS_alloc | apply FewS_drewN | apply FewS_drew)); exact HO618.out) hb); have n1_ := Aside0.mk (below_step sqB hb); clear HO618; clear HB; have HO618 := n0_; have HB := n1_; clear n0_ n1_; (try clear hb); (try clear hb2); (try clear hk); (try clear hi)))
 go_ret
 exact ⟨sqE', sqB⟩
end Go.Proofs.YtnoppeocbfapdaaGreatDoor.T
