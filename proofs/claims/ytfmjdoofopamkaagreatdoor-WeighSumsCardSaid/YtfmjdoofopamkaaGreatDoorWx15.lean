import Derived.Test.YtfmjdoofopamkaaGreatDoorWx0
import Derived.Test.YtfmjdoofopamkaaGreatDoorWx14
namespace Go.Proofs.YtfmjdoofopamkaaGreatDoor.W
open Go.RowKit Go.Proofs.YtfmjdoofopamkaaGreatDoorW.PrintWords Go.Proofs.YtfmjdoofopamkaaGreatDoorW.PrintLast Go.Proofs.YtfmjdoofopamkaaGreatDoorW.PrintMore
set_option maxHeartbeats 8000000
set_option maxRecDepth 100000
attribute [local go_sem] max2_int min2_int max_two min_two max_three min_three max_four min_four
set_option linter.unusedVariables false
set_option linter.unusedSimpArgs false
def endonymref2_Length.l0 : Nat → Int → Int → Option (Int)
 | 0, _, _ => none
 | k + 1, x3, x4 => if x4 > 0 then (endonymref2_Length.l0 k (wrap64 (x3 + 1)) (x4 / 2)) else (some x3)
def endonymref2_Length.f (k : Nat) (l0 : List Int) : Option (Int) := if (l0.length : Int) = 0 then (some 0) else (if 0 ≤ (wrap64 ((l0.length : Int) - 1)) then (if (wrap64 ((l0.length : Int) - 1)) < (l0.length : Int) then (endonymref2_Length.l0 k (wrap64 (16 * (wrap64 ((l0.length : Int) - 1)))) (rd l0 (wrap64 ((l0.length : Int) - 1)))) else (none)) else (none))
theorem endonymref2_Length.mono_l : ∀ k, (∀ y0 y1, LeO (endonymref2_Length.l0 k y0 y1) (endonymref2_Length.l0 (k + 1) y0 y1))
 | 0 => fun _ _ r h => by simp [endonymref2_Length.l0] at h
 | k + 1 => by
  have ih0 := endonymref2_Length.mono_l k
  intro y0 y1
  unfold endonymref2_Length.l0
  repeat' first | (with_reducible first | apply ih0 | apply LeO.refl | apply LeO.none | refine LeO.ite ?_ ?_ | refine LeO.bind ?_ (fun _ => ?_)) | apply LeO.none | refine LeO.ite ?_ ?_ | refine LeO.bind ?_ (fun _ => ?_)
theorem endonymref2_Length.mono : ∀ a0 k, LeO (endonymref2_Length.f k a0) (endonymref2_Length.f (k + 1) a0) := by
 intro a0 k
 have ih0 := endonymref2_Length.mono_l k
 unfold endonymref2_Length.f
 repeat' first | (with_reducible first | apply ih0 | apply LeO.refl | apply LeO.none | refine LeO.ite ?_ ?_ | refine LeO.bind ?_ (fun _ => ?_)) | apply LeO.none | refine LeO.ite ?_ ?_ | refine LeO.bind ?_ (fun _ => ?_)
theorem endonymref2_Length.calls (k : Nat) (A0 : Option Addr) (c0 : Nat) (l0 : List Int) (r : Int) (w : World) (hr0 : Kd.C (Kd.int .u32) w A0 l0.length l0) (hc0 : l0.length ≤ c0) (h : endonymref2_Length.f k l0 = some r) :
  Calls Tryz.prog 75 #[.slice A0 l0.length c0] w fun e w' => e = .returned (.int .i64 r) ∧ Drawn0 w w' := by
 have HR0 := Aside0.mk hr0
 have HC0 := Aside0.mk hc0
 clear hr0 hc0
 have H : (if (l0.length : Int) = 0 then (some 0) else (if 0 ≤ (wrap64 ((l0.length : Int) - 1)) then (if (wrap64 ((l0.length : Int) - 1)) < (l0.length : Int) then (endonymref2_Length.l0 k (wrap64 (16 * (wrap64 ((l0.length : Int) - 1)))) (rd l0 (wrap64 ((l0.length : Int) - 1)))) else (none)) else (none))) = some r := h
 clear h
 by_cases c2 : (l0.length : Int) = 0
 ·rw [if_pos c2] at H
  have c2b0 := beq_iff_eq.mpr c2
  have c2b1 := bne_eq_false_iff_eq.mpr c2
  clear c2
  obtain rfl := Option.some.inj H
  go_enter Tryz.func75, Tryz.ntmps75
  go_wp2
  go_ret
  exact ⟨sqE, sqW⟩
 rw [if_neg c2] at H
 have c2b0 := beq_eq_false_iff_ne.mpr c2
 have c2b1 := bne_iff_ne.mpr c2
 have c2b2 : ¬ (l0 = []) := fun h_ => c2 (by rw [h_]; rfl)
 obtain ⟨ji3, hji3⟩ : ∃ j_ : Int, (wrap64 ((l0.length : Int) - 1)) = j_ := ⟨_, rfl⟩
 replace H : (if 0 ≤ (ji3) then (if (ji3) < (l0.length : Int) then (endonymref2_Length.l0 k (wrap64 (16 * (ji3))) (rd l0 (ji3))) else (none)) else (none)) = some r := by first | (rw [hji3] at H; exact H) | (simp only [hji3] at H ⊢; exact H)
 have hji3w : (IntKind.i64.wrap ((l0.length : Int) - 1)) = ji3 := (i64_w _).trans hji3
 by_cases c4 : 0 ≤ (ji3)
 case neg => rw [if_neg c4] at H; exact absurd H (by simp)
 rw [if_pos c4] at H
 have c4b0 := decide_eq_true c4
 clear c4
 by_cases c5 : (ji3) < (l0.length : Int)
 case neg => rw [if_neg c5] at H; exact absurd H (by simp)
 rw [if_pos c5] at H
 have c5b0 := decide_eq_true c5
 clear c5
 have H' := Aside0.mk H
 clear H
 have p510 : 0 ≤ ((ji3) : Int) := sqD
 have q510 : (ji3) < (l0.length : Int) := sqD
 obtain ⟨ad510, e510, hx510_0⟩ := Kd.at_int HR0.out (ji3) p510 q510
 cases e510
 replace p510 := eq_true p510
 replace q510 := eq_true q510
 go_enter Tryz.func75, Tryz.ntmps75
 go_wp2
 go_loopg [3, 4] k (fun kq v3 v4 w' => ∃ (x3_1 : Int) (x4_1 : Int), v3 = .int .i64 x3_1 ∧ v4 = .int .u32 x4_1 ∧ Aside0 (endonymref2_Length.l0 kq x3_1 x4_1 = some r) ∧ Aside0 (kq ≤ k) ∧ Drawn0 w w')
 case atStart => exact ⟨(wrap64 (16 * (ji3))), (rd l0 (ji3)), (by first | rfl | (simp; done) | (simp only [← hji3] <;> (first | rfl | simp)) | (simp [*]; done)), (by first | rfl | (simp; done) | (simp only [← hji3] <;> (first | rfl | simp)) | (simp [*]; done)), H', ⟨Nat.le_refl _⟩, sqW⟩
 case round =>
  clear H'
  try clear c2
  try clear c2b0
  try clear c2b1
  try clear c2b2
  try clear p2
  try clear c4
  try clear c4b0
  try clear c5
  try clear c5b0
  try clear p5
  try clear q5
  try clear hx5
  try clear hx510_0
  try clear p510
  try clear q510
  obtain ⟨x3_1, x4_1, rfl, rfl, HA, HK1, ⟨m1, rfl⟩⟩ := hrel
  cases gk with
  | zero => exact absurd HA.out (by simp [endonymref2_Length.l0])
  | succ k1 =>
   have H := HA.out
   clear HA
   simp only [endonymref2_Length.l0] at H
   by_cases c6 : x4_1 > 0
   case neg =>
    rw [if_neg c6] at H
    have c6b0 := decide_eq_false c6
    clear c6
    obtain rfl := Option.some.inj H
    go_wp2
    go_ret
    exact ⟨by first | rfl | (simp; done) | (simp only [← hji3] <;> (first | rfl | simp)) | (simp [*]; done), sqW⟩
   rw [if_pos c6] at H
   have c6b0 := decide_eq_true c6
   clear c6
   have H' := Aside0.mk H
   clear H
   go_wp2
   go_roundg k1
   case measure => have := HK1.out; omega
   case rel => exact ⟨(wrap64 (x3_1 + 1)), (x4_1 / 2), sqE, sqE, H', ⟨by have := HK1.out; omega⟩, sqW⟩
def endonymref2_Cmp.l0 : Nat → List Int → List Int → Int → Option (Int)
 | 0, _, _, _ => none
 | k + 1, x0, x1, x5 => if x5 ≥ 0 then (if 0 ≤ x5 then (if x5 < (x0.length : Int) then (if x5 < (x1.length : Int) then (if (rd x0 x5) < (rd x1 x5) then (some (-1)) else (if (rd x0 x5) > (rd x1 x5) then (some 1) else (endonymref2_Cmp.l0 k x0 x1 (wrap64 (x5 - 1))))) else (none)) else (none)) else (none)) else (some 0)
def endonymref2_Cmp.f (k : Nat) (l0 : List Int) (l1 : List Int) : Option (Int) := if (l0.length : Int) = (l1.length : Int) then (endonymref2_Cmp.l0 k l0 l1 (wrap64 ((l0.length : Int) - 1))) else (if (l0.length : Int) < (l1.length : Int) then (some (-1)) else (some 1))
theorem endonymref2_Cmp.mono_l : ∀ k, (∀ y0 y1 y2, LeO (endonymref2_Cmp.l0 k y0 y1 y2) (endonymref2_Cmp.l0 (k + 1) y0 y1 y2))
 | 0 => fun _ _ _ r h => by simp [endonymref2_Cmp.l0] at h
 | k + 1 => by
  have ih0 := endonymref2_Cmp.mono_l k
  intro y0 y1 y2
  unfold endonymref2_Cmp.l0
  repeat' first | (with_reducible first | apply ih0 | apply LeO.refl | apply LeO.none | refine LeO.ite ?_ ?_ | refine LeO.bind ?_ (fun _ => ?_)) | apply LeO.none | refine LeO.ite ?_ ?_ | refine LeO.bind ?_ (fun _ => ?_)
theorem endonymref2_Cmp.mono : ∀ a0 a1 k, LeO (endonymref2_Cmp.f k a0 a1) (endonymref2_Cmp.f (k + 1) a0 a1) := by
 intro a0 a1 k
 have ih0 := endonymref2_Cmp.mono_l k
 unfold endonymref2_Cmp.f
 repeat' first | (with_reducible first | apply ih0 | apply LeO.refl | apply LeO.none | refine LeO.ite ?_ ?_ | refine LeO.bind ?_ (fun _ => ?_)) | apply LeO.none | refine LeO.ite ?_ ?_ | refine LeO.bind ?_ (fun _ => ?_)
theorem endonymref2_Cmp.calls (k : Nat) (A0 : Option Addr) (c0 : Nat) (l0 : List Int) (A1 : Option Addr) (c1 : Nat) (l1 : List Int) (r : Int) (w : World) (hr0 : Kd.C (Kd.int .u32) w A0 l0.length l0) (hc0 : l0.length ≤ c0) (hr1 : Kd.C (Kd.int .u32) w A1 l1.length l1) (hc1 : l1.length ≤ c1) (h : endonymref2_Cmp.f k l0 l1 = some r) :
  Calls Tryz.prog 80 #[.slice A0 l0.length c0, .slice A1 l1.length c1] w fun e w' => e = .returned (.int .i64 r) ∧ Drawn0 w w' := by
 have HR0 := Aside0.mk hr0
 have HC0 := Aside0.mk hc0
 clear hr0 hc0
 have HR1 := Aside0.mk hr1
 have HC1 := Aside0.mk hc1
 clear hr1 hc1
 have H : (if (l0.length : Int) = (l1.length : Int) then (endonymref2_Cmp.l0 k l0 l1 (wrap64 ((l0.length : Int) - 1))) else (if (l0.length : Int) < (l1.length : Int) then (some (-1)) else (some 1))) = some r := h
 clear h
 by_cases c3 : (l0.length : Int) = (l1.length : Int)
 case neg =>
  rw [if_neg c3] at H
  have c3b0 := beq_eq_false_iff_ne.mpr c3
  have c3b1 := bne_iff_ne.mpr c3
  have c3b2 : (l0.length == l1.length) = false := by first | simpa using c3 | (simp at c3 ⊢; omega)
  by_cases c10 : (l0.length : Int) < (l1.length : Int)
  ·rw [if_pos c10] at H
   have c10b0 := decide_eq_true c10
   have c10b1 : decide (l0.length < l1.length) = true := decide_eq_true (Int.ofNat_lt.mp c10)
   clear c10
   obtain rfl := Option.some.inj H
   go_enter Tryz.func80, Tryz.ntmps80
   go_wp2
   repeat (go_quiet (fail); try go_wp2)
   go_ret
   exact ⟨sqE, sqW⟩
  rw [if_neg c10] at H
  have c10b0 := decide_eq_false c10
  have c10b1 : decide (l0.length < l1.length) = false := decide_eq_false (fun h => c10 (Int.ofNat_lt.mpr h))
  clear c10
  obtain rfl := Option.some.inj H
  go_enter Tryz.func80, Tryz.ntmps80
  go_wp2
  repeat (go_quiet (fail); try go_wp2)
  go_ret
  exact ⟨sqE, sqW⟩
 rw [if_pos c3] at H
 have c3b0 := beq_iff_eq.mpr c3
 have c3b1 := bne_eq_false_iff_eq.mpr c3
 have c3b2 : (l0.length == l1.length) = true := by first | simpa using c3 | (simp at c3 ⊢; omega)
 clear c3
 have H' := Aside0.mk H
 clear H
 go_enter Tryz.func80, Tryz.ntmps80
 go_wp2
 repeat (go_quiet (fail); try go_wp2)
 go_loopg [5] k (fun kq v5 w' => ∃ (x5_1 : Int), v5 = .int .i64 x5_1 ∧ Aside0 (endonymref2_Cmp.l0 kq l0 l1 x5_1 = some r) ∧ Aside0 (kq ≤ k) ∧ Drawn0 w w')
 case atStart => exact ⟨(wrap64 ((l0.length : Int) - 1)), sqE, H', ⟨Nat.le_refl _⟩, sqW⟩
 case round =>
  clear H'
  try clear c1
  try clear p2
  try clear c3
  try clear c3b0
  try clear c3b1
  try clear c3b2
  obtain ⟨x5_1, rfl, HA, HK1, ⟨m1, rfl⟩⟩ := hrel
  cases gk with
  | zero => exact absurd HA.out (by simp [endonymref2_Cmp.l0])
  | succ k1 =>
   have H := HA.out
   clear HA
   simp only [endonymref2_Cmp.l0] at H
   by_cases c4 : x5_1 ≥ 0
   case neg =>
    rw [if_neg c4] at H
    have c4b0 := decide_eq_false c4
    clear c4
    obtain rfl := Option.some.inj H
    go_wp2
    repeat (go_quiet (fail); try go_wp2)
    go_ret
    exact ⟨sqE, sqW⟩
   rw [if_pos c4] at H
   have c4b0 := decide_eq_true c4
   clear c4
   by_cases c5 : 0 ≤ x5_1
   case neg => rw [if_neg c5] at H; exact absurd H (by simp)
   rw [if_pos c5] at H
   have c5b0 := decide_eq_true c5
   clear c5
   by_cases c6 : x5_1 < (l0.length : Int)
   case neg => rw [if_neg c6] at H; exact absurd H (by simp)
   rw [if_pos c6] at H
   have c6b0 := decide_eq_true c6
   clear c6
   by_cases c7 : x5_1 < (l1.length : Int)
   case neg => rw [if_neg c7] at H; exact absurd H (by simp)
   rw [if_pos c7] at H
   have c7b0 := decide_eq_true c7
   clear c7
   by_cases c8 : (rd l0 x5_1) < (rd l1 x5_1)
   ·rw [if_pos c8] at H
    have c8b0 := decide_eq_true c8
    clear c8
    obtain rfl := Option.some.inj H
    have p511 : 0 ≤ (x5_1 : Int) := sqD
    have q511 : x5_1 < (l0.length : Int) := sqD
    obtain ⟨ad511, e511, hx511_0⟩ := Kd.at_int HR0.out x5_1 p511 q511
    cases e511
    replace p511 := eq_true p511
    replace q511 := eq_true q511
    have p512 : 0 ≤ (x5_1 : Int) := sqD
    have q512 : x5_1 < (l1.length : Int) := sqD
    obtain ⟨ad512, e512, hx512_0⟩ := Kd.at_int HR1.out x5_1 p512 q512
    cases e512
    replace p512 := eq_true p512
    replace q512 := eq_true q512
    go_wp2
    repeat (go_quiet (fail); try go_wp2)
    go_ret
    exact ⟨sqE, sqW⟩
   rw [if_neg c8] at H
   have c8b0 := decide_eq_false c8
   clear c8
   by_cases c9 : (rd l0 x5_1) > (rd l1 x5_1)
   ·rw [if_pos c9] at H
    have c9b0 := decide_eq_true c9
    clear c9
    obtain rfl := Option.some.inj H
    have p511 : 0 ≤ (x5_1 : Int) := sqD
    have q511 : x5_1 < (l0.length : Int) := sqD
    obtain ⟨ad511, e511, hx511_0⟩ := Kd.at_int HR0.out x5_1 p511 q511
    cases e511
    replace p511 := eq_true p511
    replace q511 := eq_true q511
    have p512 : 0 ≤ (x5_1 : Int) := sqD
    have q512 : x5_1 < (l1.length : Int) := sqD
    obtain ⟨ad512, e512, hx512_0⟩ := Kd.at_int HR1.out x5_1 p512 q512
    cases e512
    replace p512 := eq_true p512
    replace q512 := eq_true q512
    have p513 : 0 ≤ (x5_1 : Int) := sqD
    have q513 : x5_1 < (l0.length : Int) := sqD
    obtain ⟨ad513, e513, hx513_0⟩ := Kd.at_int HR0.out x5_1 p513 q513
    obtain rfl : ad511 = ad513 := (by injection e513)
    replace p513 := eq_true p513
    replace q513 := eq_true q513
    have p514 : 0 ≤ (x5_1 : Int) := sqD
    have q514 : x5_1 < (l1.length : Int) := sqD
    obtain ⟨ad514, e514, hx514_0⟩ := Kd.at_int HR1.out x5_1 p514 q514
    obtain rfl : ad512 = ad514 := (by injection e514)
    replace p514 := eq_true p514
    replace q514 := eq_true q514
    go_wp2
    repeat (go_quiet (fail); try go_wp2)
    go_ret
    exact ⟨sqE, sqW⟩
   rw [if_neg c9] at H
   have c9b0 := decide_eq_false c9
   clear c9
   have H' := Aside0.mk H
   clear H
   have p511 : 0 ≤ (x5_1 : Int) := sqD
   have q511 : x5_1 < (l0.length : Int) := sqD
   obtain ⟨ad511, e511, hx511_0⟩ := Kd.at_int HR0.out x5_1 p511 q511
   cases e511
   replace p511 := eq_true p511
   replace q511 := eq_true q511
   have p512 : 0 ≤ (x5_1 : Int) := sqD
   have q512 : x5_1 < (l1.length : Int) := sqD
   obtain ⟨ad512, e512, hx512_0⟩ := Kd.at_int HR1.out x5_1 p512 q512
   cases e512
   replace p512 := eq_true p512
   replace q512 := eq_true q512
   have p513 : 0 ≤ (x5_1 : Int) := sqD
   have q513 : x5_1 < (l0.length : Int) := sqD
   obtain ⟨ad513, e513, hx513_0⟩ := Kd.at_int HR0.out x5_1 p513 q513
   obtain rfl : ad511 = ad513 := (by injection e513)
   replace p513 := eq_true p513
   replace q513 := eq_true q513
   have p514 : 0 ≤ (x5_1 : Int) := sqD
   have q514 : x5_1 < (l1.length : Int) := sqD
   obtain ⟨ad514, e514, hx514_0⟩ := Kd.at_int HR1.out x5_1 p514 q514
   obtain rfl : ad512 = ad514 := (by injection e514)
   replace p514 := eq_true p514
   replace q514 := eq_true q514
   go_wp2
   repeat (go_quiet (fail); try go_wp2)
   go_roundg k1
   case measure => have := HK1.out; omega
   case rel => exact ⟨(wrap64 (x5_1 - 1)), sqE, H', ⟨by have := HK1.out; omega⟩, sqW⟩
def endonymref2_Less.l0 : Nat → List Int → List Int → List Int → Int → Int → Option (List Int)
 | 0, _, _, _, _, _ => none
 | k + 1, x0, x1, x5, x6, x7 => if x7 < (x0.length : Int) then (if x7 < (x1.length : Int) then (if 0 ≤ x7 then (if (rd x0 x7) ≥ ((x6 + (rd x1 x7)) % 4294967296) then (if x5.length < 35184372088832 then (endonymref2_Less.l0 k x0 x1 (x5 ++ [((rd x0 x7) - ((x6 + (rd x1 x7)))) % 4294967296]) 0 (wrap64 (x7 + 1))) else (none)) else (if x5.length < 35184372088832 then (endonymref2_Less.l0 k x0 x1 (x5 ++ [((((rd x0 x7) + 65536)) - ((x6 + (rd x1 x7)))) % 4294967296]) 1 (wrap64 (x7 + 1))) else (none))) else (none)) else (if 0 ≤ x7 then (if (rd x0 x7) ≥ x6 then (if x5.length < 35184372088832 then (endonymref2_Less.l0 k x0 x1 (x5 ++ [((rd x0 x7) - x6) % 4294967296]) 0 (wrap64 (x7 + 1))) else (none)) else (if x5.length < 35184372088832 then (endonymref2_Less.l0 k x0 x1 (x5 ++ [((((rd x0 x7) + 65536)) - x6) % 4294967296]) 1 (wrap64 (x7 + 1))) else (none))) else (none))) else ((endonymref2_trim.f k x5).bind fun t515 => (some t515))
def endonymref2_Less.f (k : Nat) (l0 : List Int) (l1 : List Int) : Option (List Int) := endonymref2_Less.l0 k l0 l1 ([] : List Int) 0 0
theorem endonymref2_Less.mono_l : ∀ k, (∀ y0 y1 y2 y3 y4, LeO (endonymref2_Less.l0 k y0 y1 y2 y3 y4) (endonymref2_Less.l0 (k + 1) y0 y1 y2 y3 y4))
 | 0 => fun _ _ _ _ _ r h => by simp [endonymref2_Less.l0] at h
 | k + 1 => by
  have ih0 := endonymref2_Less.mono_l k
  intro y0 y1 y2 y3 y4
  unfold endonymref2_Less.l0
  repeat' first | (with_reducible first | apply ih0 | apply endonymref2_trim.mono | apply LeO.refl | apply LeO.none | refine LeO.ite ?_ ?_ | refine LeO.bind ?_ (fun _ => ?_)) | apply LeO.none | refine LeO.ite ?_ ?_ | refine LeO.bind ?_ (fun _ => ?_)
theorem endonymref2_Less.mono : ∀ a0 a1 k, LeO (endonymref2_Less.f k a0 a1) (endonymref2_Less.f (k + 1) a0 a1) := by
 intro a0 a1 k
 have ih0 := endonymref2_Less.mono_l k
 unfold endonymref2_Less.f
 repeat' first | (with_reducible first | apply ih0 | apply endonymref2_trim.mono | apply LeO.refl | apply LeO.none | refine LeO.ite ?_ ?_ | refine LeO.bind ?_ (fun _ => ?_)) | apply LeO.none | refine LeO.ite ?_ ?_ | refine LeO.bind ?_ (fun _ => ?_)
theorem endonymref2_Less.calls (k : Nat) (A0 : Option Addr) (c0 : Nat) (l0 : List Int) (A1 : Option Addr) (c1 : Nat) (l1 : List Int) (r : List Int) (w : World) (hr0 : Kd.C (Kd.int .u32) w A0 l0.length l0) (hc0 : l0.length ≤ c0) (hr1 : Kd.C (Kd.int .u32) w A1 l1.length l1) (hc1 : l1.length ≤ c1) (h : endonymref2_Less.f k l0 l1 = some r) :
  Calls Tryz.prog 98 #[.slice A0 l0.length c0, .slice A1 l1.length c1] w fun e w' => ∃ v0_ : Value, e = .returned (v0_) ∧ Kd.R (Kd.int .u32) 83 w' w.heap.size (fun _ => True) v0_ r ∧ Below w.heap.size w w' := by
 have HR0 := Aside0.mk hr0
 have HC0 := Aside0.mk hc0
 clear hr0 hc0
 have HR1 := Aside0.mk hr1
 have HC1 := Aside0.mk hc1
 clear hr1 hc1
 have HB := Aside0.mk (Below.refl w.heap.size w)
 have H : (endonymref2_Less.l0 k l0 l1 ([] : List Int) 0 0) = some r := h
 clear h
 have H' := Aside0.mk H
 clear H
 go_enter Tryz.func98, Tryz.ntmps98
 go_wp2
 go_loopg [5, 6, 7] k (fun kq v5 v6 v7 w' => ∃ (x5_1 : List Int) (x6_1 : Int) (x7_1 : Int), v6 = .int .u32 x6_1 ∧ v7 = .int .i64 x7_1 ∧ Aside0 (endonymref2_Less.l0 kq l0 l1 x5_1 x6_1 x7_1 = some r) ∧ Aside0 (kq ≤ k) ∧ Aside0 (Kd.R (Kd.int .u32) 83 w' w.heap.size (fun _ => True) v5 x5_1) ∧ Aside0 (Below w.heap.size w w'))
 case atStart => exact ⟨(([] : List Int)), (0), (0), sqE, sqE, H', ⟨Nat.le_refl _⟩, ⟨by first | exact Kd.R_nil _ _ _ _ _ | exact Kd.N_nil _ _ _ _ _ | exact Kd.V_nil _ _ _ _ _ | exact Kd.Q_nil _ _ _ _ _ | exact Kd.S_nil _ _ _ _ _⟩, ⟨sqB⟩⟩
 case round =>
  clear H'
  try clear c1
  try clear p2
  obtain ⟨x5_1, x6_1, x7_1, rfl, rfl, HA, HK1, HO_5, HB⟩ := hrel
  cases gk with
  | zero => exact absurd HA.out (by simp [endonymref2_Less.l0])
  | succ k1 =>
   have H := HA.out
   clear HA
   simp only [endonymref2_Less.l0] at H
   by_cases c3 : x7_1 < (l0.length : Int)
   case neg =>
    rw [if_neg c3] at H
    have c3b0 := decide_eq_false c3
    clear c3
    obtain ⟨t515, A17, H⟩ := sqO H
    try dsimp only at H
    obtain rfl := Option.some.inj H
    obtain ⟨Ao18, co18, eo18⟩ := Kd.R_slice HO_5.out
    subst eo18
    go_wp2_with (first | ((with_reducible refine gate_callee (f := 89) rfl ?_); refine goesL_ (some 52) rfl rfl Tryz.func89 (by kernel_rfl) rfl #[.slice Ao18 x5_1.length co18] rfl sqA ?_; (with_reducible refine (endonymref2_trim.calls k1 (fun k_ => some k_ = (.slice Ao18 x5_1.length co18 : Value).ownBlock) (.slice Ao18 x5_1.length co18) x5_1 t515 w _ ?side1 ?side2 A17.out).mono ?_); (case side1 => repeat (first | (with_reducible first | exact HB.out | apply below_alloc | apply pw_below_drewN | apply below_drew1) | exact HB.out)); (case side2 => exact Kd.R_tight rfl HO_5.out); rintro e w19 ⟨v516, rfl, ho0, hb, hkp⟩; refine ⟨_, rfl, ?_⟩; have n0_ := Aside0.mk (Kd.R_mono (ok' := fun k_ => True) ho0 (fun k_ hk_ => trivial)); have n1_ := Aside0.mk (hb); clear HB; clear HO_5; have HO517 := n0_; have HB := n1_; clear n0_ n1_; (try clear hb); (try clear hkp); (try clear ho0)))
    go_ret
    exact ⟨_, sqE', sqR HO517.out, sqB⟩
   rw [if_pos c3] at H
   have c3b0 := decide_eq_true c3
   clear c3
   by_cases c4 : x7_1 < (l1.length : Int)
   case neg =>
    rw [if_neg c4] at H
    have c4b0 := decide_eq_false c4
    clear c4
    by_cases c11 : 0 ≤ x7_1
    case neg => rw [if_neg c11] at H; exact absurd H (by simp)
    rw [if_pos c11] at H
    have c11b0 := decide_eq_true c11
    clear c11
    by_cases c12 : (rd l0 x7_1) ≥ x6_1
    ·rw [if_pos c12] at H
     have c12b0 := decide_eq_true c12
     clear c12
     by_cases c13 : x5_1.length < 35184372088832
     case neg => rw [if_neg c13] at H; exact absurd H (by simp)
     rw [if_pos c13] at H
     have LMc13 := Aside0.mk c13
     clear c13
     obtain ⟨y530, hy530⟩ : ∃ y_ : List Int, y_ = (x5_1 ++ [((rd l0 x7_1) - x6_1) % 4294967296]) := ⟨_, rfl⟩
     replace H : (endonymref2_Less.l0 k1 l0 l1 y530 0 (wrap64 (x7_1 + 1))) = some r := by first | (rw [hy530]; with_reducible exact H) | (have H2_ := (Option.bind_some _ _).symm.trans H; rw [hy530]; with_reducible exact H2_) | (have H2_ := (Option.bind_some _ _).symm.trans H; with_reducible exact H2_) | with_reducible exact H | (rw [hy530]; exact H) | exact H
     have Ny530 := Aside0.mk hy530
     clear hy530
     have H' := Aside0.mk H
     clear H
     have p528 : 0 ≤ (x7_1 : Int) := sqD
     have q528 : x7_1 < (l0.length : Int) := sqD
     obtain ⟨ad528, e528, hx528_0⟩ := Kd.at_int HR0.out x7_1 p528 q528
     cases e528
     replace hx528_0 := (HB.out.cell (World.block_lt_of_cell? w _ hx528_0)).trans hx528_0
     replace p528 := eq_true p528
     replace q528 := eq_true q528
     have p529 : 0 ≤ (x7_1 : Int) := sqD
     have q529 : x7_1 < (l0.length : Int) := sqD
     obtain ⟨ad529, e529, hx529_0⟩ := Kd.at_int HR0.out x7_1 p529 q529
     obtain rfl : ad528 = ad529 := (by injection e529)
     replace hx529_0 := (HB.out.cell (World.block_lt_of_cell? w _ hx529_0)).trans hx529_0
     replace p529 := eq_true p529
     replace q529 := eq_true q529
     go_wp2_with (first | ((with_reducible refine gate_builtin (b := .append) (xs := #[.tmp 32, .tmp 39]) rfl ?_); at_builtin; refine Kd.R_append (Kd.int .u32) (w0 := w) w.heap.size rfl (.tmp 32) (.tmp 39) 71 83 (.int .u32 0) 4 rfl Tryz.underlying71 info83 rfl (by decide) (by omega) u5 x5_1 (((rd l0 x7_1) - x6_1) % 4294967296) [.int .u32 (((rd l0 x7_1) - x6_1) % 4294967296)] (fun _ => True) (fun _ => False) rfl rfl ?aP (fun _ hk => hk.elim) ?aF ?aO ?aB ?aS ?aL ?_; (case aP => exact rfl); (case aB => exact sqB); (case aF => exact (fun _ _ => trivial)); (case aO => exact (sqR HO_5.out)); (case aS => exact (below_size sqB)); (case aL => have := LMc13.out; omega); intro v531 w14 ho hb hg hat; rw [← Ny530.out] at ho; have n0_ := Aside0.mk (hb); have n1_ := Aside0.mk (ho); clear HB; clear HO_5; have HB := n0_; have HO532 := n1_; clear n0_ n1_; clear ho hb hg hat))
     go_roundg k1
     case measure => have := HK1.out; omega
     case rel => exact ⟨(y530), (0), (wrap64 (x7_1 + 1)), sqE, sqE, H', ⟨by have := HK1.out; omega⟩, ⟨sqR HO532.out⟩, ⟨sqB⟩⟩
    rw [if_neg c12] at H
    have c12b0 := decide_eq_false c12
    clear c12
    by_cases c15 : x5_1.length < 35184372088832
    case neg => rw [if_neg c15] at H; exact absurd H (by simp)
    rw [if_pos c15] at H
    have LMc15 := Aside0.mk c15
    clear c15
    obtain ⟨y534, hy534⟩ : ∃ y_ : List Int, y_ = (x5_1 ++ [((((rd l0 x7_1) + 65536)) - x6_1) % 4294967296]) := ⟨_, rfl⟩
    replace H : (endonymref2_Less.l0 k1 l0 l1 y534 1 (wrap64 (x7_1 + 1))) = some r := by first | (rw [hy534]; with_reducible exact H) | (have H2_ := (Option.bind_some _ _).symm.trans H; rw [hy534]; with_reducible exact H2_) | (have H2_ := (Option.bind_some _ _).symm.trans H; with_reducible exact H2_) | with_reducible exact H | (rw [hy534]; exact H) | exact H
    have Ny534 := Aside0.mk hy534
    clear hy534
    have H' := Aside0.mk H
    clear H
    have p528 : 0 ≤ (x7_1 : Int) := sqD
    have q528 : x7_1 < (l0.length : Int) := sqD
    obtain ⟨ad528, e528, hx528_0⟩ := Kd.at_int HR0.out x7_1 p528 q528
    cases e528
    replace hx528_0 := (HB.out.cell (World.block_lt_of_cell? w _ hx528_0)).trans hx528_0
    replace p528 := eq_true p528
    replace q528 := eq_true q528
    have p533 : 0 ≤ (x7_1 : Int) := sqD
    have q533 : x7_1 < (l0.length : Int) := sqD
    obtain ⟨ad533, e533, hx533_0⟩ := Kd.at_int HR0.out x7_1 p533 q533
    obtain rfl : ad528 = ad533 := (by injection e533)
    replace hx533_0 := (HB.out.cell (World.block_lt_of_cell? w _ hx533_0)).trans hx533_0
    replace p533 := eq_true p533
    replace q533 := eq_true q533
    go_wp2_with (first | ((with_reducible refine gate_builtin (b := .append) (xs := #[.tmp 41, .tmp 49]) rfl ?_); at_builtin; refine Kd.R_append (Kd.int .u32) (w0 := w) w.heap.size rfl (.tmp 41) (.tmp 49) 71 83 (.int .u32 0) 4 rfl Tryz.underlying71 info83 rfl (by decide) (by omega) u5 x5_1 (((((rd l0 x7_1) + 65536)) - x6_1) % 4294967296) [.int .u32 (((((rd l0 x7_1) + 65536)) - x6_1) % 4294967296)] (fun _ => True) (fun _ => False) rfl rfl ?aP (fun _ hk => hk.elim) ?aF ?aO ?aB ?aS ?aL ?_; (case aP => exact rfl); (case aB => exact sqB); (case aF => exact (fun _ _ => trivial)); (case aO => exact (sqR HO_5.out)); (case aS => exact (below_size sqB)); (case aL => have := LMc15.out; omega); intro v535 w16 ho hb hg hat; rw [← Ny534.out] at ho; have n0_ := Aside0.mk (hb); have n1_ := Aside0.mk (ho); clear HB; clear HO_5; have HB := n0_; have HO536 := n1_; clear n0_ n1_; clear ho hb hg hat))
    go_roundg k1
    case measure => have := HK1.out; omega
    case rel => exact ⟨(y534), (1), (wrap64 (x7_1 + 1)), sqE, sqE, H', ⟨by have := HK1.out; omega⟩, ⟨sqR HO536.out⟩, ⟨sqB⟩⟩
   rw [if_pos c4] at H
   have c4b0 := decide_eq_true c4
   clear c4
   by_cases c5 : 0 ≤ x7_1
   case neg => rw [if_neg c5] at H; exact absurd H (by simp)
   rw [if_pos c5] at H
   have c5b0 := decide_eq_true c5
   clear c5
   by_cases c6 : (rd l0 x7_1) ≥ ((x6_1 + (rd l1 x7_1)) % 4294967296)
   ·rw [if_pos c6] at H
    have c6b0 := decide_eq_true c6
    clear c6
    by_cases c7 : x5_1.length < 35184372088832
    case neg => rw [if_neg c7] at H; exact absurd H (by simp)
    rw [if_pos c7] at H
    have LMc7 := Aside0.mk c7
    clear c7
    obtain ⟨y521, hy521⟩ : ∃ y_ : List Int, y_ = (x5_1 ++ [((rd l0 x7_1) - ((x6_1 + (rd l1 x7_1)))) % 4294967296]) := ⟨_, rfl⟩
    replace H : (endonymref2_Less.l0 k1 l0 l1 y521 0 (wrap64 (x7_1 + 1))) = some r := by first | (rw [hy521]; with_reducible exact H) | (have H2_ := (Option.bind_some _ _).symm.trans H; rw [hy521]; with_reducible exact H2_) | (have H2_ := (Option.bind_some _ _).symm.trans H; with_reducible exact H2_) | with_reducible exact H | (rw [hy521]; exact H) | exact H
    have Ny521 := Aside0.mk hy521
    clear hy521
    have H' := Aside0.mk H
    clear H
    have p518 : 0 ≤ (x7_1 : Int) := sqD
    have q518 : x7_1 < (l1.length : Int) := sqD
    obtain ⟨ad518, e518, hx518_0⟩ := Kd.at_int HR1.out x7_1 p518 q518
    cases e518
    replace hx518_0 := (HB.out.cell (World.block_lt_of_cell? w _ hx518_0)).trans hx518_0
    replace p518 := eq_true p518
    replace q518 := eq_true q518
    have p519 : 0 ≤ (x7_1 : Int) := sqD
    have q519 : x7_1 < (l0.length : Int) := sqD
    obtain ⟨ad519, e519, hx519_0⟩ := Kd.at_int HR0.out x7_1 p519 q519
    cases e519
    replace hx519_0 := (HB.out.cell (World.block_lt_of_cell? w _ hx519_0)).trans hx519_0
    replace p519 := eq_true p519
    replace q519 := eq_true q519
    have p520 : 0 ≤ (x7_1 : Int) := sqD
    have q520 : x7_1 < (l0.length : Int) := sqD
    obtain ⟨ad520, e520, hx520_0⟩ := Kd.at_int HR0.out x7_1 p520 q520
    obtain rfl : ad519 = ad520 := (by injection e520)
    replace hx520_0 := (HB.out.cell (World.block_lt_of_cell? w _ hx520_0)).trans hx520_0
    replace p520 := eq_true p520
    replace q520 := eq_true q520
    go_wp2_with (first | ((with_reducible refine gate_builtin (b := .append) (xs := #[.tmp 32, .tmp 39]) rfl ?_); at_builtin; refine Kd.R_append (Kd.int .u32) (w0 := w) w.heap.size rfl (.tmp 32) (.tmp 39) 71 83 (.int .u32 0) 4 rfl Tryz.underlying71 info83 rfl (by decide) (by omega) u5 x5_1 (((rd l0 x7_1) - ((x6_1 + (rd l1 x7_1)))) % 4294967296) [.int .u32 (((rd l0 x7_1) - ((x6_1 + (rd l1 x7_1)))) % 4294967296)] (fun _ => True) (fun _ => False) rfl rfl ?aP (fun _ hk => hk.elim) ?aF ?aO ?aB ?aS ?aL ?_; (case aP => exact rfl); (case aB => exact sqB); (case aF => exact (fun _ _ => trivial)); (case aO => exact (sqR HO_5.out)); (case aS => exact (below_size sqB)); (case aL => have := LMc7.out; omega); intro v522 w8 ho hb hg hat; rw [← Ny521.out] at ho; have n0_ := Aside0.mk (hb); have n1_ := Aside0.mk (ho); clear HB; clear HO_5; have HB := n0_; have HO523 := n1_; clear n0_ n1_; clear ho hb hg hat))
    go_roundg k1
    case measure => have := HK1.out; omega
    case rel => exact ⟨(y521), (0), (wrap64 (x7_1 + 1)), sqE, sqE, H', ⟨by have := HK1.out; omega⟩, ⟨sqR HO523.out⟩, ⟨sqB⟩⟩
   rw [if_neg c6] at H
   have c6b0 := decide_eq_false c6
   clear c6
   by_cases c9 : x5_1.length < 35184372088832
   case neg => rw [if_neg c9] at H; exact absurd H (by simp)
   rw [if_pos c9] at H
   have LMc9 := Aside0.mk c9
   clear c9
   obtain ⟨y525, hy525⟩ : ∃ y_ : List Int, y_ = (x5_1 ++ [((((rd l0 x7_1) + 65536)) - ((x6_1 + (rd l1 x7_1)))) % 4294967296]) := ⟨_, rfl⟩
   replace H : (endonymref2_Less.l0 k1 l0 l1 y525 1 (wrap64 (x7_1 + 1))) = some r := by first | (rw [hy525]; with_reducible exact H) | (have H2_ := (Option.bind_some _ _).symm.trans H; rw [hy525]; with_reducible exact H2_) | (have H2_ := (Option.bind_some _ _).symm.trans H; with_reducible exact H2_) | with_reducible exact H | (rw [hy525]; exact H) | exact H
   have Ny525 := Aside0.mk hy525
   clear hy525
   have H' := Aside0.mk H
   clear H
   have p518 : 0 ≤ (x7_1 : Int) := sqD
   have q518 : x7_1 < (l1.length : Int) := sqD
   obtain ⟨ad518, e518, hx518_0⟩ := Kd.at_int HR1.out x7_1 p518 q518
   cases e518
   replace hx518_0 := (HB.out.cell (World.block_lt_of_cell? w _ hx518_0)).trans hx518_0
   replace p518 := eq_true p518
   replace q518 := eq_true q518
   have p519 : 0 ≤ (x7_1 : Int) := sqD
   have q519 : x7_1 < (l0.length : Int) := sqD
   obtain ⟨ad519, e519, hx519_0⟩ := Kd.at_int HR0.out x7_1 p519 q519
   cases e519
   replace hx519_0 := (HB.out.cell (World.block_lt_of_cell? w _ hx519_0)).trans hx519_0
   replace p519 := eq_true p519
   replace q519 := eq_true q519
   have p524 : 0 ≤ (x7_1 : Int) := sqD
   have q524 : x7_1 < (l0.length : Int) := sqD
   obtain ⟨ad524, e524, hx524_0⟩ := Kd.at_int HR0.out x7_1 p524 q524
   obtain rfl : ad519 = ad524 := (by injection e524)
   replace hx524_0 := (HB.out.cell (World.block_lt_of_cell? w _ hx524_0)).trans hx524_0
   replace p524 := eq_true p524
   replace q524 := eq_true q524
   go_wp2_with (first | ((with_reducible refine gate_builtin (b := .append) (xs := #[.tmp 41, .tmp 49]) rfl ?_); at_builtin; refine Kd.R_append (Kd.int .u32) (w0 := w) w.heap.size rfl (.tmp 41) (.tmp 49) 71 83 (.int .u32 0) 4 rfl Tryz.underlying71 info83 rfl (by decide) (by omega) u5 x5_1 (((((rd l0 x7_1) + 65536)) - ((x6_1 + (rd l1 x7_1)))) % 4294967296) [.int .u32 (((((rd l0 x7_1) + 65536)) - ((x6_1 + (rd l1 x7_1)))) % 4294967296)] (fun _ => True) (fun _ => False) rfl rfl ?aP (fun _ hk => hk.elim) ?aF ?aO ?aB ?aS ?aL ?_; (case aP => exact rfl); (case aB => exact sqB); (case aF => exact (fun _ _ => trivial)); (case aO => exact (sqR HO_5.out)); (case aS => exact (below_size sqB)); (case aL => have := LMc9.out; omega); intro v526 w10 ho hb hg hat; rw [← Ny525.out] at ho; have n0_ := Aside0.mk (hb); have n1_ := Aside0.mk (ho); clear HB; clear HO_5; have HB := n0_; have HO527 := n1_; clear n0_ n1_; clear ho hb hg hat))
   go_roundg k1
   case measure => have := HK1.out; omega
   case rel => exact ⟨(y525), (1), (wrap64 (x7_1 + 1)), sqE, sqE, H', ⟨by have := HK1.out; omega⟩, ⟨sqR HO527.out⟩, ⟨sqB⟩⟩
mutual
def endonymref2_Plus.l0 : Nat → List Int → List Int → List Int → Int → Int → Option (List Int)
 | 0, _, _, _, _, _ => none
 | k + 1, x0, x1, x5, x6, x7 => if x7 < (x0.length : Int) then (endonymref2_Plus.j1 k x0 x1 x5 x6 x7 true) else (endonymref2_Plus.j1 k x0 x1 x5 x6 x7 (decide (x7 < (x1.length : Int))))
def endonymref2_Plus.j1 : Nat → List Int → List Int → List Int → Int → Int → Bool → Option (List Int)
 | 0, _, _, _, _, _, _ => none
 | k + 1, x0, x1, x5, x6, x7, x17 => if x17 = true then (if x7 < (x0.length : Int) then (if 0 ≤ x7 then (if x7 < (x1.length : Int) then (if x5.length < 35184372088832 then (endonymref2_Plus.l0 k x0 x1 (x5 ++ [Go.bits .and .u32 ((((x6 + (rd x0 x7))) + (rd x1 x7)) % 4294967296) 65535]) (((((x6 + (rd x0 x7))) + (rd x1 x7)) % 4294967296) / 65536) (wrap64 (x7 + 1))) else (none)) else (if x5.length < 35184372088832 then (endonymref2_Plus.l0 k x0 x1 (x5 ++ [Go.bits .and .u32 ((x6 + (rd x0 x7)) % 4294967296) 65535]) (((x6 + (rd x0 x7)) % 4294967296) / 65536) (wrap64 (x7 + 1))) else (none))) else (none)) else (if x7 < (x1.length : Int) then (if 0 ≤ x7 then (if x5.length < 35184372088832 then (endonymref2_Plus.l0 k x0 x1 (x5 ++ [Go.bits .and .u32 ((x6 + (rd x1 x7)) % 4294967296) 65535]) (((x6 + (rd x1 x7)) % 4294967296) / 65536) (wrap64 (x7 + 1))) else (none)) else (none)) else (if x5.length < 35184372088832 then (endonymref2_Plus.l0 k x0 x1 (x5 ++ [Go.bits .and .u32 x6 65535]) (x6 / 65536) (wrap64 (x7 + 1))) else (none)))) else (if x6 > 0 then (if x5.length < 35184372088832 then (some (x5 ++ [x6])) else (none)) else (some x5))
end
def endonymref2_Plus.f (k : Nat) (l0 : List Int) (l1 : List Int) : Option (List Int) := endonymref2_Plus.l0 k l0 l1 ([] : List Int) 0 0
theorem endonymref2_Plus.mono_l : ∀ k, (∀ y0 y1 y2 y3 y4, LeO (endonymref2_Plus.l0 k y0 y1 y2 y3 y4) (endonymref2_Plus.l0 (k + 1) y0 y1 y2 y3 y4)) ∧ (∀ y0 y1 y2 y3 y4 y5, LeO (endonymref2_Plus.j1 k y0 y1 y2 y3 y4 y5) (endonymref2_Plus.j1 (k + 1) y0 y1 y2 y3 y4 y5))
 | 0 => ⟨fun _ _ _ _ _ r h => by simp [endonymref2_Plus.l0] at h, fun _ _ _ _ _ _ r h => by simp [endonymref2_Plus.j1] at h⟩
 | k + 1 => by
  obtain ⟨ih0, ih1⟩ := endonymref2_Plus.mono_l k
  refine ⟨?_, ?_⟩
  ·intro y0 y1 y2 y3 y4
   unfold endonymref2_Plus.l0
   repeat' first | (with_reducible first | apply ih0 | apply ih1 | apply LeO.refl | apply LeO.none | refine LeO.ite ?_ ?_ | refine LeO.bind ?_ (fun _ => ?_)) | apply LeO.none | refine LeO.ite ?_ ?_ | refine LeO.bind ?_ (fun _ => ?_)
  intro y0 y1 y2 y3 y4 y5
  unfold endonymref2_Plus.j1
  repeat' first | (with_reducible first | apply ih0 | apply ih1 | apply LeO.refl | apply LeO.none | refine LeO.ite ?_ ?_ | refine LeO.bind ?_ (fun _ => ?_)) | apply LeO.none | refine LeO.ite ?_ ?_ | refine LeO.bind ?_ (fun _ => ?_)
theorem endonymref2_Plus.mono : ∀ a0 a1 k, LeO (endonymref2_Plus.f k a0 a1) (endonymref2_Plus.f (k + 1) a0 a1) := by
 intro a0 a1 k
 obtain ⟨ih0, ih1⟩ := endonymref2_Plus.mono_l k
 unfold endonymref2_Plus.f
 repeat' first | (with_reducible first | apply ih0 | apply ih1 | apply LeO.refl | apply LeO.none | refine LeO.ite ?_ ?_ | refine LeO.bind ?_ (fun _ => ?_)) | apply LeO.none | refine LeO.ite ?_ ?_ | refine LeO.bind ?_ (fun _ => ?_)
theorem endonymref2_Plus.calls (k : Nat) (A0 : Option Addr) (c0 : Nat) (l0 : List Int) (A1 : Option Addr) (c1 : Nat) (l1 : List Int) (r : List Int) (w : World) (hr0 : Kd.C (Kd.int .u32) w A0 l0.length l0) (hc0 : l0.length ≤ c0) (hr1 : Kd.C (Kd.int .u32) w A1 l1.length l1) (hc1 : l1.length ≤ c1) (h : endonymref2_Plus.f k l0 l1 = some r) :
  Calls Tryz.prog 99 #[.slice A0 l0.length c0, .slice A1 l1.length c1] w fun e w' => ∃ v0_ : Value, e = .returned (v0_) ∧ Kd.R (Kd.int .u32) 83 w' w.heap.size (fun _ => True) v0_ r ∧ Below w.heap.size w w' := by
 have HR0 := Aside0.mk hr0
 have HC0 := Aside0.mk hc0
 clear hr0 hc0
 have HR1 := Aside0.mk hr1
 have HC1 := Aside0.mk hc1
 clear hr1 hc1
 have HB := Aside0.mk (Below.refl w.heap.size w)
 have H : (endonymref2_Plus.l0 k l0 l1 ([] : List Int) 0 0) = some r := h
 clear h
 have H' := Aside0.mk H
 clear H
 go_enter Tryz.func99, Tryz.ntmps99
 go_wp2
 go_loopg [5, 6, 7] k (fun kq v5 v6 v7 w' => ∃ (x5_1 : List Int) (x6_1 : Int) (x7_1 : Int), v6 = .int .u32 x6_1 ∧ v7 = .int .i64 x7_1 ∧ Aside0 (endonymref2_Plus.l0 kq l0 l1 x5_1 x6_1 x7_1 = some r) ∧ Aside0 (kq ≤ k) ∧ Aside0 (Kd.R (Kd.int .u32) 83 w' w.heap.size (fun _ => True) v5 x5_1) ∧ Aside0 (Below w.heap.size w w'))
 case atStart => exact ⟨(([] : List Int)), (0), (0), sqE, sqE, H', ⟨Nat.le_refl _⟩, ⟨by first | exact Kd.R_nil _ _ _ _ _ | exact Kd.N_nil _ _ _ _ _ | exact Kd.V_nil _ _ _ _ _ | exact Kd.Q_nil _ _ _ _ _ | exact Kd.S_nil _ _ _ _ _⟩, ⟨sqB⟩⟩
 case round =>
  clear H'
  try clear c1
  try clear p2
  obtain ⟨x5_1, x6_1, x7_1, rfl, rfl, HA, HK1, HO_5, HB⟩ := hrel
  cases gk with
  | zero => exact absurd HA.out (by simp [endonymref2_Plus.l0])
  | succ k1 =>
   have H := HA.out
   clear HA
   simp only [endonymref2_Plus.l0] at H
   have HC3 := Aside0.mk H
   clear H
   go_upto_region 4 with (fail)
   go_cut [17] (fun v17 wc => ∃ (kq : Nat) (x17_2 : Bool), v17 = .bool x17_2 ∧ Aside0 (endonymref2_Plus.j1 kq l0 l1 x5_1 x6_1 x7_1 x17_2 = some r) ∧ Aside0 (kq ≤ k1) ∧ Aside0 (Kd.R (Kd.int .u32) 83 wc w.heap.size (fun _ => True) u5 x5_1) ∧ Aside0 (Below w.heap.size w wc))
   case first =>
    have H := HC3.out
    clear HC3
    by_cases c4 : x7_1 < (l0.length : Int)
    ·rw [if_pos c4] at H
     have c4b0 := decide_eq_true c4
     clear c4
     (first | rw [c4b0] | (simp only [i64_w, i32_w]; rw [c4b0]) | skip)
     have H' := Aside0.mk H
     clear H
     go_wp2
     go_meet
     case rel => exact ⟨_, (true), sqE, H', ⟨by have := HK1.out; first | omega | exact Nat.le_refl _⟩, ⟨sqR HO_5.out⟩, ⟨sqB⟩⟩
    rw [if_neg c4] at H
    have c4b0 := decide_eq_false c4
    clear c4
    (first | rw [c4b0] | (simp only [i64_w, i32_w]; rw [c4b0]) | skip)
    have H' := Aside0.mk H
    clear H
    go_wp2
    go_meet
    case rel => exact ⟨_, (decide (x7_1 < (l1.length : Int))), sqE, H', ⟨by have := HK1.out; first | omega | exact Nat.le_refl _⟩, ⟨sqR HO_5.out⟩, ⟨sqB⟩⟩
   case rest =>
    clear HC3
    try clear c1
    try clear p2
    try clear c4
    try clear c4b0
    try clear p2
    obtain ⟨kq, x17_2, rfl, HA, HJ2, HO_5, HB⟩ := hcut
    cases kq with
    | zero => exact absurd HA.out (by simp [endonymref2_Plus.j1])
    | succ kj2 =>
     have H := HA.out
     clear HA
     simp only [endonymref2_Plus.j1] at H
     by_cases c5 : x17_2 = true
     case neg =>
      replace c5 := Bool.eq_false_iff.mpr c5
      subst c5
      have H1 : (if x6_1 > 0 then (if x5_1.length < 35184372088832 then (some (x5_1 ++ [x6_1])) else (none)) else (some x5_1)) = some r := by rw [if_neg (show ¬ (false = true) by decide)] at H; exact H
      clear H
      have H := H1
      clear H1
      by_cases c19 : x6_1 > 0
      case neg =>
       rw [if_neg c19] at H
       have c19b0 := decide_eq_false c19
       clear c19
       obtain rfl := Option.some.inj H
       go_wp2
       go_ret
       exact ⟨_, sqE', sqR HO_5.out, sqB⟩
      rw [if_pos c19] at H
      have c19b0 := decide_eq_true c19
      clear c19
      by_cases c20 : x5_1.length < 35184372088832
      case neg => rw [if_neg c20] at H; exact absurd H (by simp)
      rw [if_pos c20] at H
      have LMc20 := Aside0.mk c20
      clear c20
      obtain ⟨y537, hy537⟩ : ∃ y_ : List Int, y_ = (x5_1 ++ [x6_1]) := ⟨_, rfl⟩
      replace H : (some y537) = some r := by first | (rw [hy537]; with_reducible exact H) | (have H2_ := (Option.bind_some _ _).symm.trans H; rw [hy537]; with_reducible exact H2_) | (have H2_ := (Option.bind_some _ _).symm.trans H; with_reducible exact H2_) | with_reducible exact H | (rw [hy537]; exact H) | exact H
      have Ny537 := Aside0.mk hy537
      clear hy537
      obtain rfl := Option.some.inj H
      go_wp2_with (first | ((with_reducible refine gate_builtin (b := .append) (xs := #[.tmp 49, .tmp 51]) rfl ?_); (try (refine gate_guard (by rfl) ?_; dsimp only)); at_builtin; refine Kd.R_append (Kd.int .u32) (w0 := w) w.heap.size rfl (.tmp 49) (.tmp 51) 71 83 (.int .u32 0) 4 rfl Tryz.underlying71 info83 rfl (by decide) (by omega) u5 x5_1 x6_1 [.int .u32 x6_1] (fun _ => True) (fun _ => False) rfl rfl ?aP (fun _ hk => hk.elim) ?aF ?aO ?aB ?aS ?aL ?_; (case aP => exact rfl); (case aB => exact sqB); (case aF => exact (fun _ _ => trivial)); (case aO => exact (sqR HO_5.out)); (case aS => exact (below_size sqB)); (case aL => have := LMc20.out; omega); intro v538 w21 ho hb hg hat; rw [← Ny537.out] at ho; have n0_ := Aside0.mk (hb); have n1_ := Aside0.mk (ho); clear HB; clear HO_5; have HB := n0_; have HO539 := n1_; clear n0_ n1_; clear ho hb hg hat))
      go_ret
      exact ⟨_, sqE', sqR HO539.out, sqB⟩
     subst c5
     have H1 : (if x7_1 < (l0.length : Int) then (if 0 ≤ x7_1 then (if x7_1 < (l1.length : Int) then (if x5_1.length < 35184372088832 then (endonymref2_Plus.l0 kj2 l0 l1 (x5_1 ++ [Go.bits .and .u32 ((((x6_1 + (rd l0 x7_1))) + (rd l1 x7_1)) % 4294967296) 65535]) (((((x6_1 + (rd l0 x7_1))) + (rd l1 x7_1)) % 4294967296) / 65536) (wrap64 (x7_1 + 1))) else (none)) else (if x5_1.length < 35184372088832 then (endonymref2_Plus.l0 kj2 l0 l1 (x5_1 ++ [Go.bits .and .u32 ((x6_1 + (rd l0 x7_1)) % 4294967296) 65535]) (((x6_1 + (rd l0 x7_1)) % 4294967296) / 65536) (wrap64 (x7_1 + 1))) else (none))) else (none)) else (if x7_1 < (l1.length : Int) then (if 0 ≤ x7_1 then (if x5_1.length < 35184372088832 then (endonymref2_Plus.l0 kj2 l0 l1 (x5_1 ++ [Go.bits .and .u32 ((x6_1 + (rd l1 x7_1)) % 4294967296) 65535]) (((x6_1 + (rd l1 x7_1)) % 4294967296) / 65536) (wrap64 (x7_1 + 1))) else (none)) else (none)) else (if x5_1.length < 35184372088832 then (endonymref2_Plus.l0 kj2 l0 l1 (x5_1 ++ [Go.bits .and .u32 x6_1 65535]) (x6_1 / 65536) (wrap64 (x7_1 + 1))) else (none)))) = some r := by rw [if_pos rfl] at H; exact H
     clear H
     have H := H1
     clear H1
     by_cases c6 : x7_1 < (l0.length : Int)
     case neg =>
      rw [if_neg c6] at H
      have c6b0 := decide_eq_false c6
      clear c6
      by_cases c13 : x7_1 < (l1.length : Int)
      case neg =>
       rw [if_neg c13] at H
       have c13b0 := decide_eq_false c13
       clear c13
       by_cases c17 : x5_1.length < 35184372088832
       case neg => rw [if_neg c17] at H; exact absurd H (by simp)
       rw [if_pos c17] at H
       have LMc17 := Aside0.mk c17
       clear c17
       obtain ⟨y552, hy552⟩ : ∃ y_ : List Int, y_ = (x5_1 ++ [Go.bits .and .u32 x6_1 65535]) := ⟨_, rfl⟩
       replace H : (endonymref2_Plus.l0 kj2 l0 l1 y552 (x6_1 / 65536) (wrap64 (x7_1 + 1))) = some r := by first | (rw [hy552]; with_reducible exact H) | (have H2_ := (Option.bind_some _ _).symm.trans H; rw [hy552]; with_reducible exact H2_) | (have H2_ := (Option.bind_some _ _).symm.trans H; with_reducible exact H2_) | with_reducible exact H | (rw [hy552]; exact H) | exact H
       have Ny552 := Aside0.mk hy552
       clear hy552
       have H' := Aside0.mk H
       clear H
       go_wp2_with (first | ((with_reducible refine gate_builtin (b := .append) (xs := #[.tmp 40, .tmp 43]) rfl ?_); (try (refine gate_guard (by rfl) ?_; dsimp only)); at_builtin; refine Kd.R_append (Kd.int .u32) (w0 := w) w.heap.size rfl (.tmp 40) (.tmp 43) 71 83 (.int .u32 0) 4 rfl Tryz.underlying71 info83 rfl (by decide) (by omega) u5 x5_1 (Go.bits .and .u32 x6_1 65535) [.int .u32 (Go.bits .and .u32 x6_1 65535)] (fun _ => True) (fun _ => False) rfl rfl ?aP (fun _ hk => hk.elim) ?aF ?aO ?aB ?aS ?aL ?_; (case aP => exact rfl); (case aB => exact sqB); (case aF => exact (fun _ _ => trivial)); (case aO => exact (sqR HO_5.out)); (case aS => exact (below_size sqB)); (case aL => have := LMc17.out; omega); intro v553 w18 ho hb hg hat; rw [← Ny552.out] at ho; have n0_ := Aside0.mk (hb); have n1_ := Aside0.mk (ho); clear HB; clear HO_5; have HB := n0_; have HO554 := n1_; clear n0_ n1_; clear ho hb hg hat))
       go_roundg kj2
       case measure => have := HK1.out; have := HJ2.out; omega
       case rel => exact ⟨(y552), (x6_1 / 65536), (wrap64 (x7_1 + 1)), sqE, sqE, H', ⟨by have := HK1.out; have := HJ2.out; omega⟩, ⟨sqR HO554.out⟩, ⟨sqB⟩⟩
      rw [if_pos c13] at H
      have c13b0 := decide_eq_true c13
      clear c13
      by_cases c14 : 0 ≤ x7_1
      case neg => rw [if_neg c14] at H; exact absurd H (by simp)
      rw [if_pos c14] at H
      have c14b0 := decide_eq_true c14
      clear c14
      by_cases c15 : x5_1.length < 35184372088832
      case neg => rw [if_neg c15] at H; exact absurd H (by simp)
      rw [if_pos c15] at H
      have LMc15 := Aside0.mk c15
      clear c15
      obtain ⟨y549, hy549⟩ : ∃ y_ : List Int, y_ = (x5_1 ++ [Go.bits .and .u32 ((x6_1 + (rd l1 x7_1)) % 4294967296) 65535]) := ⟨_, rfl⟩
      replace H : (endonymref2_Plus.l0 kj2 l0 l1 y549 (((x6_1 + (rd l1 x7_1)) % 4294967296) / 65536) (wrap64 (x7_1 + 1))) = some r := by first | (rw [hy549]; with_reducible exact H) | (have H2_ := (Option.bind_some _ _).symm.trans H; rw [hy549]; with_reducible exact H2_) | (have H2_ := (Option.bind_some _ _).symm.trans H; with_reducible exact H2_) | with_reducible exact H | (rw [hy549]; exact H) | exact H
      have Ny549 := Aside0.mk hy549
      clear hy549
      have H' := Aside0.mk H
      clear H
      have p548 : 0 ≤ (x7_1 : Int) := sqD
      have q548 : x7_1 < (l1.length : Int) := sqD
      obtain ⟨ad548, e548, hx548_0⟩ := Kd.at_int HR1.out x7_1 p548 q548
      cases e548
      replace hx548_0 := (HB.out.cell (World.block_lt_of_cell? w _ hx548_0)).trans hx548_0
      replace p548 := eq_true p548
      replace q548 := eq_true q548
      go_wp2_with (first | ((with_reducible refine gate_builtin (b := .append) (xs := #[.tmp 40, .tmp 43]) rfl ?_); (try (refine gate_guard (by rfl) ?_; dsimp only)); at_builtin; refine Kd.R_append (Kd.int .u32) (w0 := w) w.heap.size rfl (.tmp 40) (.tmp 43) 71 83 (.int .u32 0) 4 rfl Tryz.underlying71 info83 rfl (by decide) (by omega) u5 x5_1 (Go.bits .and .u32 ((x6_1 + (rd l1 x7_1)) % 4294967296) 65535) [.int .u32 (Go.bits .and .u32 ((x6_1 + (rd l1 x7_1)) % 4294967296) 65535)] (fun _ => True) (fun _ => False) rfl rfl ?aP (fun _ hk => hk.elim) ?aF ?aO ?aB ?aS ?aL ?_; (case aP => exact rfl); (case aB => exact sqB); (case aF => exact (fun _ _ => trivial)); (case aO => exact (sqR HO_5.out)); (case aS => exact (below_size sqB)); (case aL => have := LMc15.out; omega); intro v550 w16 ho hb hg hat; rw [← Ny549.out] at ho; have n0_ := Aside0.mk (hb); have n1_ := Aside0.mk (ho); clear HB; clear HO_5; have HB := n0_; have HO551 := n1_; clear n0_ n1_; clear ho hb hg hat))
      go_roundg kj2
      case measure => have := HK1.out; have := HJ2.out; omega
      case rel => exact ⟨(y549), (((x6_1 + (rd l1 x7_1)) % 4294967296) / 65536), (wrap64 (x7_1 + 1)), sqE, sqE, H', ⟨by have := HK1.out; have := HJ2.out; omega⟩, ⟨sqR HO551.out⟩, ⟨sqB⟩⟩
     rw [if_pos c6] at H
     have c6b0 := decide_eq_true c6
     clear c6
     by_cases c7 : 0 ≤ x7_1
     case neg => rw [if_neg c7] at H; exact absurd H (by simp)
     rw [if_pos c7] at H
     have c7b0 := decide_eq_true c7
     clear c7
     by_cases c8 : x7_1 < (l1.length : Int)
     case neg =>
      rw [if_neg c8] at H
      have c8b0 := decide_eq_false c8
      clear c8
      by_cases c11 : x5_1.length < 35184372088832
      case neg => rw [if_neg c11] at H; exact absurd H (by simp)
      rw [if_pos c11] at H
      have LMc11 := Aside0.mk c11
      clear c11
      obtain ⟨y545, hy545⟩ : ∃ y_ : List Int, y_ = (x5_1 ++ [Go.bits .and .u32 ((x6_1 + (rd l0 x7_1)) % 4294967296) 65535]) := ⟨_, rfl⟩
      replace H : (endonymref2_Plus.l0 kj2 l0 l1 y545 (((x6_1 + (rd l0 x7_1)) % 4294967296) / 65536) (wrap64 (x7_1 + 1))) = some r := by first | (rw [hy545]; with_reducible exact H) | (have H2_ := (Option.bind_some _ _).symm.trans H; rw [hy545]; with_reducible exact H2_) | (have H2_ := (Option.bind_some _ _).symm.trans H; with_reducible exact H2_) | with_reducible exact H | (rw [hy545]; exact H) | exact H
      have Ny545 := Aside0.mk hy545
      clear hy545
      have H' := Aside0.mk H
      clear H
      have p540 : 0 ≤ (x7_1 : Int) := sqD
      have q540 : x7_1 < (l0.length : Int) := sqD
      obtain ⟨ad540, e540, hx540_0⟩ := Kd.at_int HR0.out x7_1 p540 q540
      cases e540
      replace hx540_0 := (HB.out.cell (World.block_lt_of_cell? w _ hx540_0)).trans hx540_0
      replace p540 := eq_true p540
      replace q540 := eq_true q540
      go_wp2_with (first | ((with_reducible refine gate_builtin (b := .append) (xs := #[.tmp 40, .tmp 43]) rfl ?_); (try (refine gate_guard (by rfl) ?_; dsimp only)); at_builtin; refine Kd.R_append (Kd.int .u32) (w0 := w) w.heap.size rfl (.tmp 40) (.tmp 43) 71 83 (.int .u32 0) 4 rfl Tryz.underlying71 info83 rfl (by decide) (by omega) u5 x5_1 (Go.bits .and .u32 ((x6_1 + (rd l0 x7_1)) % 4294967296) 65535) [.int .u32 (Go.bits .and .u32 ((x6_1 + (rd l0 x7_1)) % 4294967296) 65535)] (fun _ => True) (fun _ => False) rfl rfl ?aP (fun _ hk => hk.elim) ?aF ?aO ?aB ?aS ?aL ?_; (case aP => exact rfl); (case aB => exact sqB); (case aF => exact (fun _ _ => trivial)); (case aO => exact (sqR HO_5.out)); (case aS => exact (below_size sqB)); (case aL => have := LMc11.out; omega); intro v546 w12 ho hb hg hat; rw [← Ny545.out] at ho; have n0_ := Aside0.mk (hb); have n1_ := Aside0.mk (ho); clear HB; clear HO_5; have HB := n0_; have HO547 := n1_; clear n0_ n1_; clear ho hb hg hat))
      go_roundg kj2
      case measure => have := HK1.out; have := HJ2.out; omega
      case rel => exact ⟨(y545), (((x6_1 + (rd l0 x7_1)) % 4294967296) / 65536), (wrap64 (x7_1 + 1)), sqE, sqE, H', ⟨by have := HK1.out; have := HJ2.out; omega⟩, ⟨sqR HO547.out⟩, ⟨sqB⟩⟩
     rw [if_pos c8] at H
     have c8b0 := decide_eq_true c8
     clear c8
     by_cases c9 : x5_1.length < 35184372088832
     case neg => rw [if_neg c9] at H; exact absurd H (by simp)
     rw [if_pos c9] at H
     have LMc9 := Aside0.mk c9
     clear c9
     obtain ⟨y542, hy542⟩ : ∃ y_ : List Int, y_ = (x5_1 ++ [Go.bits .and .u32 ((((x6_1 + (rd l0 x7_1))) + (rd l1 x7_1)) % 4294967296) 65535]) := ⟨_, rfl⟩
     replace H : (endonymref2_Plus.l0 kj2 l0 l1 y542 (((((x6_1 + (rd l0 x7_1))) + (rd l1 x7_1)) % 4294967296) / 65536) (wrap64 (x7_1 + 1))) = some r := by first | (rw [hy542]; with_reducible exact H) | (have H2_ := (Option.bind_some _ _).symm.trans H; rw [hy542]; with_reducible exact H2_) | (have H2_ := (Option.bind_some _ _).symm.trans H; with_reducible exact H2_) | with_reducible exact H | (rw [hy542]; exact H) | exact H
     have Ny542 := Aside0.mk hy542
     clear hy542
     have H' := Aside0.mk H
     clear H
     have p540 : 0 ≤ (x7_1 : Int) := sqD
     have q540 : x7_1 < (l0.length : Int) := sqD
     obtain ⟨ad540, e540, hx540_0⟩ := Kd.at_int HR0.out x7_1 p540 q540
     cases e540
     replace hx540_0 := (HB.out.cell (World.block_lt_of_cell? w _ hx540_0)).trans hx540_0
     replace p540 := eq_true p540
     replace q540 := eq_true q540
     have p541 : 0 ≤ (x7_1 : Int) := sqD
     have q541 : x7_1 < (l1.length : Int) := sqD
     obtain ⟨ad541, e541, hx541_0⟩ := Kd.at_int HR1.out x7_1 p541 q541
     cases e541
     replace hx541_0 := (HB.out.cell (World.block_lt_of_cell? w _ hx541_0)).trans hx541_0
     replace p541 := eq_true p541
     replace q541 := eq_true q541
     go_wp2_with (first | ((with_reducible refine gate_builtin (b := .append) (xs := #[.tmp 40, .tmp 43]) rfl ?_); (try (refine gate_guard (by rfl) ?_; dsimp only)); at_builtin; refine Kd.R_append (Kd.int .u32) (w0 := w) w.heap.size rfl (.tmp 40) (.tmp 43) 71 83 (.int .u32 0) 4 rfl Tryz.underlying71 info83 rfl (by decide) (by omega) u5 x5_1 (Go.bits .and .u32 ((((x6_1 + (rd l0 x7_1))) + (rd l1 x7_1)) % 4294967296) 65535) [.int .u32 (Go.bits .and .u32 ((((x6_1 + (rd l0 x7_1))) + (rd l1 x7_1)) % 4294967296) 65535)] (fun _ => True) (fun _ => False) rfl rfl ?aP (fun _ hk => hk.elim) ?aF ?aO ?aB ?aS ?aL ?_; (case aP => exact rfl); (case aB => exact sqB); (case aF => exact (fun _ _ => trivial)); (case aO => exact (sqR HO_5.out)); (case aS => exact (below_size sqB)); (case aL => have := LMc9.out; omega); intro v543 w10 ho hb hg hat; rw [← Ny542.out] at ho; have n0_ := Aside0.mk (hb); have n1_ := Aside0.mk (ho); clear HB; clear HO_5; have HB := n0_; have HO544 := n1_; clear n0_ n1_; clear ho hb hg hat))
     go_roundg kj2
     case measure => have := HK1.out; have := HJ2.out; omega
     case rel => exact ⟨(y542), (((((x6_1 + (rd l0 x7_1))) + (rd l1 x7_1)) % 4294967296) / 65536), (wrap64 (x7_1 + 1)), sqE, sqE, H', ⟨by have := HK1.out; have := HJ2.out; omega⟩, ⟨sqR HO544.out⟩, ⟨sqB⟩⟩
end Go.Proofs.YtfmjdoofopamkaaGreatDoor.W
