-- written by wip/pp.py of this session (the kit's print with patches); checked by Lean alone
import Derived.Test.YtfmjdoofopamkaaGreatDoorWx0
namespace Go.Proofs.YtfmjdoofopamkaaGreatDoor.W
open Go.RowKit Go.Proofs.YtfmjdoofopamkaaGreatDoorW.PrintWords Go.Proofs.YtfmjdoofopamkaaGreatDoorW.PrintLast Go.Proofs.YtfmjdoofopamkaaGreatDoorW.PrintMore
attribute [local go_sem] max2_int min2_int max_two min_two max_three min_three max_four min_four   -- for this text's walks alone
set_option linter.unusedVariables false
set_option linter.unusedSimpArgs false

/-! ### endonymref2_odd: function 47 -/
mutual
def endonymref2_odd.l0 : Nat → List Int → Bool → Bool → Int → Option (Int × Bool)
 | 0, _, _, _, _ => none
 | k + 1, x0, x4, x5, x6 => if x6 < (x0.length : Int) then (if 0 ≤ x6 then (if (Go.bits .andNot .u64 (rd x0 x6) 9223372036854775808) > 9218868437227405312 then (some (9221120237041090560, true)) else (if x4 = true then (if x5 = true then (endonymref2_odd.l0 k x0 true true (wrap64 (x6 + 1))) else (endonymref2_odd.l0 k x0 true ((rd x0 x6) == 18442240474082181120) (wrap64 (x6 + 1)))) else (if x5 = true then (endonymref2_odd.l0 k x0 ((rd x0 x6) == 9218868437227405312) true (wrap64 (x6 + 1))) else (endonymref2_odd.l0 k x0 ((rd x0 x6) == 9218868437227405312) ((rd x0 x6) == 18442240474082181120) (wrap64 (x6 + 1)))))) else (none)) else (if x4 = true then (endonymref2_odd.j1 k x4 x5 x5) else (endonymref2_odd.j1 k x4 x5 false))
def endonymref2_odd.j1 : Nat → Bool → Bool → Bool → Option (Int × Bool)
 | 0, _, _, _ => none
 | k + 1, x4, x5, x35 => if x35 = true then (some (9221120237041090560, true)) else (if x4 = true then (some (9218868437227405312, true)) else (if x5 = true then (some (18442240474082181120, true)) else (some (0, false))))
end
def endonymref2_odd.f (k : Nat) (l0 : List Int) : Option (Int × Bool) := endonymref2_odd.l0 k l0 false false 0
theorem endonymref2_odd.mono_l : ∀ k, (∀ y0 y1 y2 y3, LeO (endonymref2_odd.l0 k y0 y1 y2 y3) (endonymref2_odd.l0 (k + 1) y0 y1 y2 y3)) ∧ (∀ y0 y1 y2, LeO (endonymref2_odd.j1 k y0 y1 y2) (endonymref2_odd.j1 (k + 1) y0 y1 y2))
 | 0 => ⟨fun _ _ _ _ r h => by simp [endonymref2_odd.l0] at h, fun _ _ _ r h => by simp [endonymref2_odd.j1] at h⟩
 | k + 1 => by
  obtain ⟨ih0, ih1⟩ := endonymref2_odd.mono_l k
  refine ⟨?_, ?_⟩
  ·intro y0 y1 y2 y3
   unfold endonymref2_odd.l0
   repeat' first | (with_reducible first | apply ih0 | apply ih1 | apply LeO.refl | apply LeO.none | refine LeO.ite ?_ ?_ | refine LeO.bind ?_ (fun _ => ?_)) | apply ih0 | apply ih1 | apply LeO.none | refine LeO.ite ?_ ?_ | refine LeO.bind ?_ (fun _ => ?_)
  intro y0 y1 y2
  unfold endonymref2_odd.j1
  repeat' first | (with_reducible first | apply ih0 | apply ih1 | apply LeO.refl | apply LeO.none | refine LeO.ite ?_ ?_ | refine LeO.bind ?_ (fun _ => ?_)) | apply ih0 | apply ih1 | apply LeO.none | refine LeO.ite ?_ ?_ | refine LeO.bind ?_ (fun _ => ?_)
theorem endonymref2_odd.mono : ∀ a0 k, LeO (endonymref2_odd.f k a0) (endonymref2_odd.f (k + 1) a0) := by
 intro a0 k
 obtain ⟨ih0, ih1⟩ := endonymref2_odd.mono_l k
 unfold endonymref2_odd.f
 repeat' first | (with_reducible first | apply ih0 | apply ih1 | apply LeO.refl | apply LeO.none | refine LeO.ite ?_ ?_ | refine LeO.bind ?_ (fun _ => ?_)) | apply ih0 | apply ih1 | apply LeO.none | refine LeO.ite ?_ ?_ | refine LeO.bind ?_ (fun _ => ?_)
set_option maxHeartbeats 8000000 in
set_option maxRecDepth 100000 in
theorem endonymref2_odd.calls (k : Nat) (A0 : Option Addr) (c0 : Nat) (l0 : List Int) (r1 : Int) (r2 : Bool) (w : World) (hr0 : Kd.C (Kd.int .u64) w A0 l0.length l0) (hc0 : l0.length ≤ c0) (h : endonymref2_odd.f k l0 = some (r1, r2)) :
  Calls Tryz.prog 47 #[.slice A0 l0.length c0] w fun e w' => e = .returned (.tuple #[.int .u64 r1, .bool r2]) ∧ Drawn0 w w' := by
 have HR0 := Aside0.mk hr0
 have HC0 := Aside0.mk hc0
 clear hr0 hc0
 have H : (endonymref2_odd.l0 k l0 false false 0) = some (r1, r2) := h
 clear h
 have H' := Aside0.mk H
 clear H
 go_enter Tryz.func47, Tryz.ntmps47
 go_wp2
 go_loopg [4, 5, 6] k (fun kq v4 v5 v6 w' => ∃ (x4_1 : Bool) (x5_1 : Bool) (x6_1 : Int), v4 = .bool x4_1 ∧ v5 = .bool x5_1 ∧ v6 = .int .i64 x6_1 ∧ Aside0 (endonymref2_odd.l0 kq l0 x4_1 x5_1 x6_1 = some (r1, r2)) ∧ Aside0 (kq ≤ k) ∧ Drawn0 w w')
 case atStart => exact ⟨(false), (false), (0), sqE, sqE, sqE, H', ⟨Nat.le_refl _⟩, sqW⟩
 case round =>
  clear H'
  obtain ⟨x4_1, x5_1, x6_1, rfl, rfl, rfl, HA, HK1, ⟨m1, rfl⟩⟩ := hrel
  cases gk with
  | zero => exact absurd HA.out (by simp [endonymref2_odd.l0])
  | succ k1 =>
   have H := HA.out
   clear HA
   simp only [endonymref2_odd.l0] at H
   by_cases c2 : x6_1 < (l0.length : Int)
   ·rw [if_pos c2] at H
    have c2b0 := decide_eq_true c2
    clear c2
    by_cases c3 : 0 ≤ x6_1
    case neg => rw [if_neg c3] at H; exact absurd H (by simp)
    rw [if_pos c3] at H
    have c3b0 := decide_eq_true c3
    clear c3
    by_cases c4 : (Go.bits .andNot .u64 (rd l0 x6_1) 9223372036854775808) > 9218868437227405312
    ·rw [if_pos c4] at H
     have c4b0 := decide_eq_true c4
     clear c4
     simp only [Option.some.injEq, Prod.mk.injEq] at H
     obtain ⟨rfl, rfl⟩ := H
     have p695 : 0 ≤ (x6_1 : Int) := sqD
     have q695 : x6_1 < (l0.length : Int) := sqD
     obtain ⟨ad695, e695, hx695_0⟩ := Kd.at_int HR0.out x6_1 p695 q695
     cases e695
     replace p695 := eq_true p695
     replace q695 := eq_true q695
     go_wp2
     go_ret2
     exact ⟨sqE, sqW⟩
    rw [if_neg c4] at H
    have c4b0 := decide_eq_false c4
    clear c4
    by_cases c5 : x4_1 = true
    ·subst c5
     have H1 : (if x5_1 = true then (endonymref2_odd.l0 k1 l0 true true (wrap64 (x6_1 + 1))) else (endonymref2_odd.l0 k1 l0 true ((rd l0 x6_1) == 18442240474082181120) (wrap64 (x6_1 + 1)))) = some (r1, r2) := by rw [if_pos rfl] at H; exact H
     clear H
     have H := H1
     clear H1
     by_cases c6 : x5_1 = true
     ·subst c6
      have H1 : (endonymref2_odd.l0 k1 l0 true true (wrap64 (x6_1 + 1))) = some (r1, r2) := by rw [if_pos rfl] at H; exact H
      clear H
      have H := H1
      clear H1
      have H' := Aside0.mk H
      clear H
      have p695 : 0 ≤ (x6_1 : Int) := sqD
      have q695 : x6_1 < (l0.length : Int) := sqD
      obtain ⟨ad695, e695, hx695_0⟩ := Kd.at_int HR0.out x6_1 p695 q695
      cases e695
      replace p695 := eq_true p695
      replace q695 := eq_true q695
      go_wp2
      go_roundg k1
      case measure => have := HK1.out; omega
      case rel => exact ⟨(true), (true), (wrap64 (x6_1 + 1)), sqE, sqE, sqE, H', ⟨by have := HK1.out; omega⟩, sqW⟩
     replace c6 := Bool.eq_false_iff.mpr c6
     subst c6
     have H1 : (endonymref2_odd.l0 k1 l0 true ((rd l0 x6_1) == 18442240474082181120) (wrap64 (x6_1 + 1))) = some (r1, r2) := by rw [if_neg (show ¬ (false = true) by decide)] at H; exact H
     clear H
     have H := H1
     clear H1
     have H' := Aside0.mk H
     clear H
     have p695 : 0 ≤ (x6_1 : Int) := sqD
     have q695 : x6_1 < (l0.length : Int) := sqD
     obtain ⟨ad695, e695, hx695_0⟩ := Kd.at_int HR0.out x6_1 p695 q695
     cases e695
     replace p695 := eq_true p695
     replace q695 := eq_true q695
     have p696 : 0 ≤ (x6_1 : Int) := sqD
     have q696 : x6_1 < (l0.length : Int) := sqD
     obtain ⟨ad696, e696, hx696_0⟩ := Kd.at_int HR0.out x6_1 p696 q696
     obtain rfl : ad695 = ad696 := (by injection e696)
     replace p696 := eq_true p696
     replace q696 := eq_true q696
     go_wp2
     go_roundg k1
     case measure => have := HK1.out; omega
     case rel => exact ⟨(true), (((rd l0 x6_1) == 18442240474082181120)), (wrap64 (x6_1 + 1)), sqE, sqE, sqE, H', ⟨by have := HK1.out; omega⟩, sqW⟩
    replace c5 := Bool.eq_false_iff.mpr c5
    subst c5
    have H1 : (if x5_1 = true then (endonymref2_odd.l0 k1 l0 ((rd l0 x6_1) == 9218868437227405312) true (wrap64 (x6_1 + 1))) else (endonymref2_odd.l0 k1 l0 ((rd l0 x6_1) == 9218868437227405312) ((rd l0 x6_1) == 18442240474082181120) (wrap64 (x6_1 + 1)))) = some (r1, r2) := by rw [if_neg (show ¬ (false = true) by decide)] at H; exact H
    clear H
    have H := H1
    clear H1
    by_cases c7 : x5_1 = true
    ·subst c7
     have H1 : (endonymref2_odd.l0 k1 l0 ((rd l0 x6_1) == 9218868437227405312) true (wrap64 (x6_1 + 1))) = some (r1, r2) := by rw [if_pos rfl] at H; exact H
     clear H
     have H := H1
     clear H1
     have H' := Aside0.mk H
     clear H
     have p695 : 0 ≤ (x6_1 : Int) := sqD
     have q695 : x6_1 < (l0.length : Int) := sqD
     obtain ⟨ad695, e695, hx695_0⟩ := Kd.at_int HR0.out x6_1 p695 q695
     cases e695
     replace p695 := eq_true p695
     replace q695 := eq_true q695
     have p697 : 0 ≤ (x6_1 : Int) := sqD
     have q697 : x6_1 < (l0.length : Int) := sqD
     obtain ⟨ad697, e697, hx697_0⟩ := Kd.at_int HR0.out x6_1 p697 q697
     obtain rfl : ad695 = ad697 := (by injection e697)
     replace p697 := eq_true p697
     replace q697 := eq_true q697
     go_wp2
     go_roundg k1
     case measure => have := HK1.out; omega
     case rel => exact ⟨(((rd l0 x6_1) == 9218868437227405312)), (true), (wrap64 (x6_1 + 1)), sqE, sqE, sqE, H', ⟨by have := HK1.out; omega⟩, sqW⟩
    replace c7 := Bool.eq_false_iff.mpr c7
    subst c7
    have H1 : (endonymref2_odd.l0 k1 l0 ((rd l0 x6_1) == 9218868437227405312) ((rd l0 x6_1) == 18442240474082181120) (wrap64 (x6_1 + 1))) = some (r1, r2) := by rw [if_neg (show ¬ (false = true) by decide)] at H; exact H
    clear H
    have H := H1
    clear H1
    have H' := Aside0.mk H
    clear H
    have p695 : 0 ≤ (x6_1 : Int) := sqD
    have q695 : x6_1 < (l0.length : Int) := sqD
    obtain ⟨ad695, e695, hx695_0⟩ := Kd.at_int HR0.out x6_1 p695 q695
    cases e695
    replace p695 := eq_true p695
    replace q695 := eq_true q695
    have p697 : 0 ≤ (x6_1 : Int) := sqD
    have q697 : x6_1 < (l0.length : Int) := sqD
    obtain ⟨ad697, e697, hx697_0⟩ := Kd.at_int HR0.out x6_1 p697 q697
    obtain rfl : ad695 = ad697 := (by injection e697)
    replace p697 := eq_true p697
    replace q697 := eq_true q697
    have p698 : 0 ≤ (x6_1 : Int) := sqD
    have q698 : x6_1 < (l0.length : Int) := sqD
    obtain ⟨ad698, e698, hx698_0⟩ := Kd.at_int HR0.out x6_1 p698 q698
    obtain rfl : ad695 = ad698 := (by injection e698)
    replace p698 := eq_true p698
    replace q698 := eq_true q698
    go_wp2
    go_roundg k1
    case measure => have := HK1.out; omega
    case rel => exact ⟨(((rd l0 x6_1) == 9218868437227405312)), (((rd l0 x6_1) == 18442240474082181120)), (wrap64 (x6_1 + 1)), sqE, sqE, sqE, H', ⟨by have := HK1.out; omega⟩, sqW⟩
   rw [if_neg c2] at H
   have c2b0 := decide_eq_false c2
   clear c2
   have HC8 := Aside0.mk H
   clear H
   go_upto_region 9 with (fail)
   go_cut [35] (fun v35 wc => ∃ (kq : Nat) (x35_7 : Bool), v35 = .bool x35_7 ∧ Aside0 (endonymref2_odd.j1 kq x4_1 x5_1 x35_7 = some (r1, r2)) ∧ Aside0 (kq ≤ k1) ∧ Drawn0 w wc)
   case first =>
    have H := HC8.out
    clear HC8
    by_cases c9 : x4_1 = true
    ·subst c9
     have H1 : (endonymref2_odd.j1 k1 true x5_1 x5_1) = some (r1, r2) := by rw [if_pos rfl] at H; exact H
     clear H
     have H := H1
     clear H1
     have H' := Aside0.mk H
     clear H
     go_wp2
     go_meet
     case rel => exact ⟨_, (x5_1), sqE, H', ⟨by have := HK1.out; first | omega | exact Nat.le_refl _⟩, sqW⟩
    replace c9 := Bool.eq_false_iff.mpr c9
    subst c9
    have H1 : (endonymref2_odd.j1 k1 false x5_1 false) = some (r1, r2) := by rw [if_neg (show ¬ (false = true) by decide)] at H; exact H
    clear H
    have H := H1
    clear H1
    have H' := Aside0.mk H
    clear H
    go_wp2
    go_meet
    case rel => exact ⟨_, (false), sqE, H', ⟨by have := HK1.out; first | omega | exact Nat.le_refl _⟩, sqW⟩
   case rest =>
    clear HC8
    try clear c2
    try clear c2b0
    try clear p2
    try clear c3
    try clear c3b0
    try clear c4
    try clear c4b0
    try clear c5
    try clear c6
    try clear p6
    try clear q6
    try clear hx6
    try clear c7
    try clear c9
    try clear hx695_0
    try clear hx696_0
    try clear hx697_0
    try clear hx698_0
    try clear p695
    try clear p696
    try clear p697
    try clear p698
    try clear q695
    try clear q696
    try clear q697
    try clear q698
    obtain ⟨kq, x35_7, rfl, HA, HJ7, ⟨mc7, rfl⟩⟩ := hcut
    cases kq with
    | zero => exact absurd HA.out (by simp [endonymref2_odd.j1])
    | succ kj7 =>
     have H := HA.out
     clear HA
     simp only [endonymref2_odd.j1] at H
     by_cases c10 : x35_7 = true
     ·subst c10
      have H1 : (some (9221120237041090560, true)) = some (r1, r2) := by rw [if_pos rfl] at H; exact H
      clear H
      have H := H1
      clear H1
      simp only [Option.some.injEq, Prod.mk.injEq] at H
      obtain ⟨rfl, rfl⟩ := H
      go_wp2
      go_ret2
      exact ⟨sqE, sqW⟩
     replace c10 := Bool.eq_false_iff.mpr c10
     subst c10
     have H1 : (if x4_1 = true then (some (9218868437227405312, true)) else (if x5_1 = true then (some (18442240474082181120, true)) else (some (0, false)))) = some (r1, r2) := by rw [if_neg (show ¬ (false = true) by decide)] at H; exact H
     clear H
     have H := H1
     clear H1
     by_cases c11 : x4_1 = true
     ·subst c11
      have H1 : (some (9218868437227405312, true)) = some (r1, r2) := by rw [if_pos rfl] at H; exact H
      clear H
      have H := H1
      clear H1
      simp only [Option.some.injEq, Prod.mk.injEq] at H
      obtain ⟨rfl, rfl⟩ := H
      go_wp2
      go_ret2
      exact ⟨sqE, sqW⟩
     replace c11 := Bool.eq_false_iff.mpr c11
     subst c11
     have H1 : (if x5_1 = true then (some (18442240474082181120, true)) else (some (0, false))) = some (r1, r2) := by rw [if_neg (show ¬ (false = true) by decide)] at H; exact H
     clear H
     have H := H1
     clear H1
     by_cases c12 : x5_1 = true
     ·subst c12
      have H1 : (some (18442240474082181120, true)) = some (r1, r2) := by rw [if_pos rfl] at H; exact H
      clear H
      have H := H1
      clear H1
      simp only [Option.some.injEq, Prod.mk.injEq] at H
      obtain ⟨rfl, rfl⟩ := H
      go_wp2
      go_ret2
      exact ⟨sqE, sqW⟩
     replace c12 := Bool.eq_false_iff.mpr c12
     subst c12
     have H1 : (some (0, false)) = some (r1, r2) := by rw [if_neg (show ¬ (false = true) by decide)] at H; exact H
     clear H
     have H := H1
     clear H1
     simp only [Option.some.injEq, Prod.mk.injEq] at H
     obtain ⟨rfl, rfl⟩ := H
     go_wp2
     go_ret2
     exact ⟨sqE, sqW⟩

end Go.Proofs.YtfmjdoofopamkaaGreatDoor.W
