-- written by wip/pp.py of this session (the kit's print with patches); checked by Lean alone
import Derived.Test.YtfmjdoofopamkaaDoorWx0
import Derived.Test.YtfmjdoofopamkaaDoorWx6
import Derived.Test.YtfmjdoofopamkaaDoorWx7
import Derived.Test.YtfmjdoofopamkaaDoorWx10
namespace Go.Proofs.YtfmjdoofopamkaaDoor.W
open Go.RowKit Go.Proofs.YtfmjdoofopamkaaDoorW.PrintWords Go.Proofs.YtfmjdoofopamkaaDoorW.PrintLast Go.Proofs.YtfmjdoofopamkaaDoorW.PrintMore
attribute [local go_sem] max2_int min2_int max_two min_two max_three min_three max_four min_four   -- for this text's walks alone
set_option linter.unusedVariables false
set_option linter.unusedSimpArgs false

/-! ### endonymlaw2_digits: function 20 -/
mutual
def endonymlaw2_digits.l0 : Nat → ByteArray → Int → Int → Int → Int → Option (Int)
 | 0, _, _, _, _, _ => none
 | k + 1, x0, x3, x4, x5, x6 => if x6 < (x0.size : Int) then (if 0 ≤ x6 then (endonymlaw2_digits.j1 k x0 x3 x4 x5 x6 ((bt x0 x6) != 101)) else (none)) else (endonymlaw2_digits.j1 k x0 x3 x4 x5 x6 false)
def endonymlaw2_digits.j1 : Nat → ByteArray → Int → Int → Int → Int → Bool → Option (Int)
 | 0, _, _, _, _, _, _ => none
 | k + 1, x0, x3, x4, x5, x6, x16 => if x16 = true then (if 0 ≤ x6 then (if x6 < (x0.size : Int) then (if (bt x0 x6) ≥ 48 then (endonymlaw2_digits.j2 k x0 x3 x4 x5 x6 (decide ((bt x0 x6) ≤ 57))) else (endonymlaw2_digits.j2 k x0 x3 x4 x5 x6 false)) else (none)) else (none)) else (if x3 < 0 then (some 0) else (some (wrap64 ((wrap64 (x4 - x3)) + 1))))
def endonymlaw2_digits.j2 : Nat → ByteArray → Int → Int → Int → Int → Bool → Option (Int)
 | 0, _, _, _, _, _, _ => none
 | k + 1, x0, x3, x4, x5, x6, x28 => if x28 = true then (if 0 ≤ x6 then (if x6 < (x0.size : Int) then (if (bt x0 x6) = 48 then (endonymlaw2_digits.l0 k x0 x3 x4 (wrap64 (x5 + 1)) (wrap64 (x6 + 1))) else (if x3 < 0 then (endonymlaw2_digits.l0 k x0 x5 x5 (wrap64 (x5 + 1)) (wrap64 (x6 + 1))) else (endonymlaw2_digits.l0 k x0 x3 x5 (wrap64 (x5 + 1)) (wrap64 (x6 + 1))))) else (none)) else (none)) else (endonymlaw2_digits.l0 k x0 x3 x4 x5 (wrap64 (x6 + 1)))
end
def endonymlaw2_digits.f (k : Nat) (a0 : ByteArray) : Option (Int) := endonymlaw2_digits.l0 k a0 (-1) (-1) 0 0
theorem endonymlaw2_digits.mono_l : ∀ k, (∀ y0 y1 y2 y3 y4, LeO (endonymlaw2_digits.l0 k y0 y1 y2 y3 y4) (endonymlaw2_digits.l0 (k + 1) y0 y1 y2 y3 y4)) ∧ (∀ y0 y1 y2 y3 y4 y5, LeO (endonymlaw2_digits.j1 k y0 y1 y2 y3 y4 y5) (endonymlaw2_digits.j1 (k + 1) y0 y1 y2 y3 y4 y5)) ∧ (∀ y0 y1 y2 y3 y4 y5, LeO (endonymlaw2_digits.j2 k y0 y1 y2 y3 y4 y5) (endonymlaw2_digits.j2 (k + 1) y0 y1 y2 y3 y4 y5))
 | 0 => ⟨fun _ _ _ _ _ r h => by simp [endonymlaw2_digits.l0] at h, fun _ _ _ _ _ _ r h => by simp [endonymlaw2_digits.j1] at h, fun _ _ _ _ _ _ r h => by simp [endonymlaw2_digits.j2] at h⟩
 | k + 1 => by
  obtain ⟨ih0, ih1, ih2⟩ := endonymlaw2_digits.mono_l k
  refine ⟨?_, ?_, ?_⟩
  ·intro y0 y1 y2 y3 y4
   unfold endonymlaw2_digits.l0
   repeat' first | (with_reducible first | apply ih0 | apply ih1 | apply ih2 | apply LeO.refl | apply LeO.none | refine LeO.ite ?_ ?_ | refine LeO.bind ?_ (fun _ => ?_)) | apply ih0 | apply ih1 | apply ih2 | apply LeO.none | refine LeO.ite ?_ ?_ | refine LeO.bind ?_ (fun _ => ?_)
  ·intro y0 y1 y2 y3 y4 y5
   unfold endonymlaw2_digits.j1
   repeat' first | (with_reducible first | apply ih0 | apply ih1 | apply ih2 | apply LeO.refl | apply LeO.none | refine LeO.ite ?_ ?_ | refine LeO.bind ?_ (fun _ => ?_)) | apply ih0 | apply ih1 | apply ih2 | apply LeO.none | refine LeO.ite ?_ ?_ | refine LeO.bind ?_ (fun _ => ?_)
  intro y0 y1 y2 y3 y4 y5
  unfold endonymlaw2_digits.j2
  repeat' first | (with_reducible first | apply ih0 | apply ih1 | apply ih2 | apply LeO.refl | apply LeO.none | refine LeO.ite ?_ ?_ | refine LeO.bind ?_ (fun _ => ?_)) | apply ih0 | apply ih1 | apply ih2 | apply LeO.none | refine LeO.ite ?_ ?_ | refine LeO.bind ?_ (fun _ => ?_)
theorem endonymlaw2_digits.mono : ∀ a0 k, LeO (endonymlaw2_digits.f k a0) (endonymlaw2_digits.f (k + 1) a0) := by
 intro a0 k
 obtain ⟨ih0, ih1, ih2⟩ := endonymlaw2_digits.mono_l k
 unfold endonymlaw2_digits.f
 repeat' first | (with_reducible first | apply ih0 | apply ih1 | apply ih2 | apply LeO.refl | apply LeO.none | refine LeO.ite ?_ ?_ | refine LeO.bind ?_ (fun _ => ?_)) | apply ih0 | apply ih1 | apply ih2 | apply LeO.none | refine LeO.ite ?_ ?_ | refine LeO.bind ?_ (fun _ => ?_)
set_option maxHeartbeats 8000000 in
set_option maxRecDepth 100000 in
theorem endonymlaw2_digits.calls (k : Nat) (a0 : ByteArray) (r : Int) (w : World) (h : endonymlaw2_digits.f k a0 = some r) :
  Calls Tryd.prog 20 #[.string a0] w fun e w' => e = .returned (.int .i64 r) ∧ Drawn0 w w' := by
 have H : (endonymlaw2_digits.l0 k a0 (-1) (-1) 0 0) = some r := h
 clear h
 have H' := Aside0.mk H
 clear H
 go_enter Tryd.func20, Tryd.ntmps20
 go_wp2
 go_loopg [3, 4, 5, 6] k (fun kq v3 v4 v5 v6 w' => ∃ (x3_1 : Int) (x4_1 : Int) (x5_1 : Int) (x6_1 : Int), v3 = .int .i64 x3_1 ∧ v4 = .int .i64 x4_1 ∧ v5 = .int .i64 x5_1 ∧ v6 = .int .i64 x6_1 ∧ Aside0 (endonymlaw2_digits.l0 kq a0 x3_1 x4_1 x5_1 x6_1 = some r) ∧ Aside0 (kq ≤ k) ∧ Drawn0 w w')
 case atStart => exact ⟨((-1)), ((-1)), (0), (0), sqE, sqE, sqE, sqE, H', ⟨Nat.le_refl _⟩, sqW⟩
 case round =>
  clear H'
  obtain ⟨x3_1, x4_1, x5_1, x6_1, rfl, rfl, rfl, rfl, HA, HK1, ⟨m1, rfl⟩⟩ := hrel
  cases gk with
  | zero => exact absurd HA.out (by simp [endonymlaw2_digits.l0])
  | succ k1 =>
   have H := HA.out
   clear HA
   simp only [endonymlaw2_digits.l0] at H
   have HC2 := Aside0.mk H
   clear H
   go_upto_region 4 with (fail)
   go_cut [16] (fun v16 wc => ∃ (kq : Nat) (x16_1 : Bool), v16 = .bool x16_1 ∧ Aside0 (endonymlaw2_digits.j1 kq a0 x3_1 x4_1 x5_1 x6_1 x16_1 = some r) ∧ Aside0 (kq ≤ k1) ∧ Drawn0 w wc)
   case first =>
    have H := HC2.out
    clear HC2
    by_cases c3 : x6_1 < (a0.size : Int)
    ·rw [if_pos c3] at H
     have c3b0 := decide_eq_true c3
     clear c3
     (first | rw [c3b0] | (simp only [i64_w, i32_w]; rw [c3b0]) | skip)
     by_cases c4 : 0 ≤ x6_1
     case neg => rw [if_neg c4] at H; exact absurd H (by simp)
     rw [if_pos c4] at H
     have c4b0 := decide_eq_true c4
     clear c4
     have H' := Aside0.mk H
     clear H
     have p5 : 0 ≤ (x6_1 : Int) := sqD
     have q5 : x6_1 < (a0.size : Int) := sqD
     have hx5 := bt_at a0 x6_1
     replace p5 := eq_true p5
     replace q5 := eq_true q5
     go_wp2
     go_meet
     case rel => exact ⟨_, (((bt a0 x6_1) != 101)), sqE, H', ⟨by have := HK1.out; first | omega | exact Nat.le_refl _⟩, sqW⟩
    rw [if_neg c3] at H
    have c3b0 := decide_eq_false c3
    clear c3
    (first | rw [c3b0] | (simp only [i64_w, i32_w]; rw [c3b0]) | skip)
    have H' := Aside0.mk H
    clear H
    go_wp2
    go_meet
    case rel => exact ⟨_, (false), sqE, H', ⟨by have := HK1.out; first | omega | exact Nat.le_refl _⟩, sqW⟩
   case rest =>
    clear HC2
    try clear c2
    try clear p2
    try clear c3
    try clear c3b0
    try clear c4
    try clear c4b0
    try clear p5
    try clear q5
    try clear hx5
    try clear p5
    try clear q5
    obtain ⟨kq, x16_1, rfl, HA, HJ1, ⟨mc1, rfl⟩⟩ := hcut
    cases kq with
    | zero => exact absurd HA.out (by simp [endonymlaw2_digits.j1])
    | succ kj1 =>
     have H := HA.out
     clear HA
     simp only [endonymlaw2_digits.j1] at H
     by_cases c6 : x16_1 = true
     ·subst c6
      have H1 : (if 0 ≤ x6_1 then (if x6_1 < (a0.size : Int) then (if (bt a0 x6_1) ≥ 48 then (endonymlaw2_digits.j2 kj1 a0 x3_1 x4_1 x5_1 x6_1 (decide ((bt a0 x6_1) ≤ 57))) else (endonymlaw2_digits.j2 kj1 a0 x3_1 x4_1 x5_1 x6_1 false)) else (none)) else (none)) = some r := by rw [if_pos rfl] at H; exact H
      clear H
      have H := H1
      clear H1
      have HC7 := Aside0.mk H
      clear H
      go_upto_region 6 with (fail)
      go_cut [28] (fun v28 wc => ∃ (kq : Nat) (x28_6 : Bool), v28 = .bool x28_6 ∧ Aside0 (endonymlaw2_digits.j2 kq a0 x3_1 x4_1 x5_1 x6_1 x28_6 = some r) ∧ Aside0 (kq ≤ kj1) ∧ Drawn0 w wc)
      case first =>
       have H := HC7.out
       clear HC7
       by_cases c8 : 0 ≤ x6_1
       case neg => rw [if_neg c8] at H; exact absurd H (by simp)
       rw [if_pos c8] at H
       have c8b0 := decide_eq_true c8
       clear c8
       (first | rw [c8b0] | (simp only [i64_w, i32_w]; rw [c8b0]) | skip)
       by_cases c9 : x6_1 < (a0.size : Int)
       case neg => rw [if_neg c9] at H; exact absurd H (by simp)
       rw [if_pos c9] at H
       have c9b0 := decide_eq_true c9
       clear c9
       by_cases c11 : (bt a0 x6_1) ≥ 48
       ·rw [if_pos c11] at H
        have c11b0 := decide_eq_true c11
        clear c11
        have H' := Aside0.mk H
        clear H
        have p10 : 0 ≤ (x6_1 : Int) := sqD
        have q10 : x6_1 < (a0.size : Int) := sqD
        have hx10 := bt_at a0 x6_1
        replace p10 := eq_true p10
        replace q10 := eq_true q10
        have p12 : 0 ≤ (x6_1 : Int) := sqD
        have q12 : x6_1 < (a0.size : Int) := sqD
        have hx12 := bt_at a0 x6_1
        replace p12 := eq_true p12
        replace q12 := eq_true q12
        go_wp2
        go_meet
        case rel => exact ⟨_, (decide ((bt a0 x6_1) ≤ 57)), sqE, H', ⟨by have := HK1.out; have := HJ1.out; first | omega | exact Nat.le_refl _⟩, sqW⟩
       rw [if_neg c11] at H
       have c11b0 := decide_eq_false c11
       clear c11
       have H' := Aside0.mk H
       clear H
       have p10 : 0 ≤ (x6_1 : Int) := sqD
       have q10 : x6_1 < (a0.size : Int) := sqD
       have hx10 := bt_at a0 x6_1
       replace p10 := eq_true p10
       replace q10 := eq_true q10
       go_wp2
       go_meet
       case rel => exact ⟨_, (false), sqE, H', ⟨by have := HK1.out; have := HJ1.out; first | omega | exact Nat.le_refl _⟩, sqW⟩
      case rest =>
       clear HC7
       try clear c1
       try clear p1
       try clear q1
       try clear hx1
       try clear c2
       try clear p2
       try clear c3
       try clear c3b0
       try clear c4
       try clear c4b0
       try clear p5
       try clear q5
       try clear hx5
       try clear c6
       try clear c8
       try clear c8b0
       try clear c9
       try clear c9b0
       try clear p10
       try clear q10
       try clear hx10
       try clear c11
       try clear c11b0
       try clear p12
       try clear q12
       try clear hx12
       try clear p10
       try clear p12
       try clear p2
       try clear p5
       try clear q10
       try clear q12
       try clear q5
       obtain ⟨kq, x28_6, rfl, HA, HJ6, ⟨mc6, rfl⟩⟩ := hcut
       cases kq with
       | zero => exact absurd HA.out (by simp [endonymlaw2_digits.j2])
       | succ kj6 =>
        have H := HA.out
        clear HA
        simp only [endonymlaw2_digits.j2] at H
        by_cases c13 : x28_6 = true
        ·subst c13
         have H1 : (if 0 ≤ x6_1 then (if x6_1 < (a0.size : Int) then (if (bt a0 x6_1) = 48 then (endonymlaw2_digits.l0 kj6 a0 x3_1 x4_1 (wrap64 (x5_1 + 1)) (wrap64 (x6_1 + 1))) else (if x3_1 < 0 then (endonymlaw2_digits.l0 kj6 a0 x5_1 x5_1 (wrap64 (x5_1 + 1)) (wrap64 (x6_1 + 1))) else (endonymlaw2_digits.l0 kj6 a0 x3_1 x5_1 (wrap64 (x5_1 + 1)) (wrap64 (x6_1 + 1))))) else (none)) else (none)) = some r := by rw [if_pos rfl] at H; exact H
         clear H
         have H := H1
         clear H1
         by_cases c14 : 0 ≤ x6_1
         case neg => rw [if_neg c14] at H; exact absurd H (by simp)
         rw [if_pos c14] at H
         have c14b0 := decide_eq_true c14
         clear c14
         by_cases c15 : x6_1 < (a0.size : Int)
         case neg => rw [if_neg c15] at H; exact absurd H (by simp)
         rw [if_pos c15] at H
         have c15b0 := decide_eq_true c15
         clear c15
         by_cases c17 : (bt a0 x6_1) = 48
         ·rw [if_pos c17] at H
          have c17b0 := beq_iff_eq.mpr c17
          have c17b1 := bne_eq_false_iff_eq.mpr c17
          clear c17
          have H' := Aside0.mk H
          clear H
          have p16 : 0 ≤ (x6_1 : Int) := sqD
          have q16 : x6_1 < (a0.size : Int) := sqD
          have hx16 := bt_at a0 x6_1
          replace p16 := eq_true p16
          replace q16 := eq_true q16
          go_wp2
          go_roundg kj6
          case measure => have := HK1.out; have := HJ1.out; have := HJ6.out; omega
          case rel => exact ⟨(x3_1), (x4_1), (wrap64 (x5_1 + 1)), (wrap64 (x6_1 + 1)), sqE, sqE, sqE, sqE, H', ⟨by have := HK1.out; have := HJ1.out; have := HJ6.out; omega⟩, sqW⟩
         rw [if_neg c17] at H
         have c17b0 := beq_eq_false_iff_ne.mpr c17
         have c17b1 := bne_iff_ne.mpr c17
         by_cases c18 : x3_1 < 0
         ·rw [if_pos c18] at H
          have c18b0 := decide_eq_true c18
          clear c18
          have H' := Aside0.mk H
          clear H
          have p16 : 0 ≤ (x6_1 : Int) := sqD
          have q16 : x6_1 < (a0.size : Int) := sqD
          have hx16 := bt_at a0 x6_1
          replace p16 := eq_true p16
          replace q16 := eq_true q16
          go_wp2
          go_roundg kj6
          case measure => have := HK1.out; have := HJ1.out; have := HJ6.out; omega
          case rel => exact ⟨(x5_1), (x5_1), (wrap64 (x5_1 + 1)), (wrap64 (x6_1 + 1)), sqE, sqE, sqE, sqE, H', ⟨by have := HK1.out; have := HJ1.out; have := HJ6.out; omega⟩, sqW⟩
         rw [if_neg c18] at H
         have c18b0 := decide_eq_false c18
         clear c18
         have H' := Aside0.mk H
         clear H
         have p16 : 0 ≤ (x6_1 : Int) := sqD
         have q16 : x6_1 < (a0.size : Int) := sqD
         have hx16 := bt_at a0 x6_1
         replace p16 := eq_true p16
         replace q16 := eq_true q16
         go_wp2
         go_roundg kj6
         case measure => have := HK1.out; have := HJ1.out; have := HJ6.out; omega
         case rel => exact ⟨(x3_1), (x5_1), (wrap64 (x5_1 + 1)), (wrap64 (x6_1 + 1)), sqE, sqE, sqE, sqE, H', ⟨by have := HK1.out; have := HJ1.out; have := HJ6.out; omega⟩, sqW⟩
        replace c13 := Bool.eq_false_iff.mpr c13
        subst c13
        have H1 : (endonymlaw2_digits.l0 kj6 a0 x3_1 x4_1 x5_1 (wrap64 (x6_1 + 1))) = some r := by rw [if_neg (show ¬ (false = true) by decide)] at H; exact H
        clear H
        have H := H1
        clear H1
        have H' := Aside0.mk H
        clear H
        go_wp2
        go_roundg kj6
        case measure => have := HK1.out; have := HJ1.out; have := HJ6.out; omega
        case rel => exact ⟨(x3_1), (x4_1), (x5_1), (wrap64 (x6_1 + 1)), sqE, sqE, sqE, sqE, H', ⟨by have := HK1.out; have := HJ1.out; have := HJ6.out; omega⟩, sqW⟩
     replace c6 := Bool.eq_false_iff.mpr c6
     subst c6
     have H1 : (if x3_1 < 0 then (some 0) else (some (wrap64 ((wrap64 (x4_1 - x3_1)) + 1)))) = some r := by rw [if_neg (show ¬ (false = true) by decide)] at H; exact H
     clear H
     have H := H1
     clear H1
     by_cases c19 : x3_1 < 0
     ·rw [if_pos c19] at H
      have c19b0 := decide_eq_true c19
      clear c19
      obtain rfl := Option.some.inj H
      go_wp2
      go_ret
      exact ⟨sqE, sqW⟩
     rw [if_neg c19] at H
     have c19b0 := decide_eq_false c19
     clear c19
     obtain rfl := Option.some.inj H
     go_wp2
     go_ret
     exact ⟨sqE, sqW⟩

/-! ### endonymlaw2_WeighFewest: function 7 -/
def endonymlaw2_WeighFewest.j0 : Nat → ByteArray → Nat → Bool → Option (Bool)
 | 0, _, _, _ => none
 | k + 1, x0, x3, x23 => if x23 = true then ((endonymlaw2_told.f k).bind fun t477 => (some t477)) else ((endonymlaw2_told.f k).bind fun t478 => (if t478 = true then ((weigh_Print.f k x3).bind fun t479 => ((endonymlaw2_digits.f k t479).bind fun t480 => ((endonymlaw2_digits.f k x0).bind fun t481 => (some (decide (t480 ≤ t481)))))) else (some false)))
def endonymlaw2_WeighFewest.f (k : Nat) (a0 : ByteArray) : Option (Bool) := (weigh_Parse.f k a0).bind fun bt475 => (if bt475.2 = 0 then (if (FloatKind.f64.format.order bt475.1 (0 : Nat) == some .eq) = true then (endonymlaw2_WeighFewest.j0 k a0 bt475.1 true) else (if a0.toList = ([105, 110, 102] : List UInt8) then (endonymlaw2_WeighFewest.j0 k a0 bt475.1 true) else (endonymlaw2_WeighFewest.j0 k a0 bt475.1 (a0.toList == ([45, 105, 110, 102] : List UInt8))))) else (endonymlaw2_WeighFewest.j0 k a0 bt475.1 true))
theorem endonymlaw2_WeighFewest.mono_l : ∀ k, (∀ y0 y1 y2, LeO (endonymlaw2_WeighFewest.j0 k y0 y1 y2) (endonymlaw2_WeighFewest.j0 (k + 1) y0 y1 y2))
 | 0 => fun _ _ _ r h => by simp [endonymlaw2_WeighFewest.j0] at h
 | k + 1 => by
  have ih0 := endonymlaw2_WeighFewest.mono_l k
  intro y0 y1 y2
  unfold endonymlaw2_WeighFewest.j0
  repeat' first | (with_reducible first | apply ih0 | apply endonymlaw2_digits.mono | apply endonymlaw2_told.mono | apply weigh_Parse.mono | apply weigh_Print.mono | apply LeO.refl | apply LeO.none | refine LeO.ite ?_ ?_ | refine LeO.bind ?_ (fun _ => ?_)) | apply ih0 | apply endonymlaw2_digits.mono | apply endonymlaw2_told.mono | apply weigh_Parse.mono | apply weigh_Print.mono | apply LeO.none | refine LeO.ite ?_ ?_ | refine LeO.bind ?_ (fun _ => ?_)
theorem endonymlaw2_WeighFewest.mono : ∀ a0 k, LeO (endonymlaw2_WeighFewest.f k a0) (endonymlaw2_WeighFewest.f (k + 1) a0) := by
 intro a0 k
 have ih0 := endonymlaw2_WeighFewest.mono_l k
 unfold endonymlaw2_WeighFewest.f
 repeat' first | (with_reducible first | apply ih0 | apply endonymlaw2_digits.mono | apply endonymlaw2_told.mono | apply weigh_Parse.mono | apply weigh_Print.mono | apply LeO.refl | apply LeO.none | refine LeO.ite ?_ ?_ | refine LeO.bind ?_ (fun _ => ?_)) | apply ih0 | apply endonymlaw2_digits.mono | apply endonymlaw2_told.mono | apply weigh_Parse.mono | apply weigh_Print.mono | apply LeO.none | refine LeO.ite ?_ ?_ | refine LeO.bind ?_ (fun _ => ?_)
set_option maxHeartbeats 8000000 in
set_option maxRecDepth 100000 in
theorem endonymlaw2_WeighFewest.calls (k : Nat) (a0 : ByteArray) (r : Bool) (w : World) (htab : Aside0 (Rm.Tab w)) (h : endonymlaw2_WeighFewest.f k a0 = some r) :
  Calls Tryd.prog 7 #[.string a0] w fun e w' => e = .returned (.bool r) ∧ Below w.heap.size w w' := by
 have HB := Aside0.mk (Below.refl w.heap.size w)
 have H : ((weigh_Parse.f k a0).bind fun bt475 => (if bt475.2 = 0 then (if (FloatKind.f64.format.order bt475.1 (0 : Nat) == some .eq) = true then (endonymlaw2_WeighFewest.j0 k a0 bt475.1 true) else (if a0.toList = ([105, 110, 102] : List UInt8) then (endonymlaw2_WeighFewest.j0 k a0 bt475.1 true) else (endonymlaw2_WeighFewest.j0 k a0 bt475.1 (a0.toList == ([45, 105, 110, 102] : List UInt8))))) else (endonymlaw2_WeighFewest.j0 k a0 bt475.1 true))) = some r := h
 clear h
 replace H := Option.bind_eq_some_iff.mp H
 obtain ⟨⟨t475, t476⟩, A20, H⟩ := H
 try dsimp only at H
 have A2 := Aside0.mk A20
 clear A20
 have HC3 := Aside0.mk H
 clear H
 go_enter Tryd.func7, Tryd.ntmps7
 go_upto_region 2 with (first | ((with_reducible refine gate_callee (f := 19) rfl ?_); refine goesL_ (some 7) rfl rfl Tryd.func19 (by kernel_rfl) rfl #[.string a0] rfl sqA ?_; (with_reducible refine (weigh_Parse.calls k a0 t475 t476 _ A2.out).mono ?_); rintro e w4 ⟨rfl, hb⟩; refine ⟨_, rfl, ?_⟩; have n0_ := Aside0.mk (below_step sqB hb); clear HB; have HB := n0_; clear n0_; (try clear hb); (try clear hb2); (try clear hk); (try clear hi)))
 (try simp only [Act.put, List.setIfInBounds_toArray, List.set_cons_zero, List.set_cons_succ])
 go_cut [23] (fun v23 wc => ∃ (kq : Nat) (x23_2 : Bool), v23 = .bool x23_2 ∧ Aside0 (endonymlaw2_WeighFewest.j0 kq a0 t475 x23_2 = some r) ∧ Aside0 (kq ≤ k) ∧ Aside0 (Below w.heap.size w wc))
 case first =>
  have H := HC3.out
  clear HC3
  by_cases c5 : t476 = 0
  ·rw [if_pos c5] at H
   have c5b0 := beq_iff_eq.mpr c5
   have c5b1 := bne_eq_false_iff_eq.mpr c5
   clear c5
   (first | rw [c5b0] | (simp only [i64_w, i32_w]; rw [c5b0]) | skip)
   by_cases c6 : (FloatKind.f64.format.order t475 (0 : Nat) == some .eq) = true
   ·rw [if_pos c6] at H
    have c6b0 : (FloatKind.f64.format.order t475 (0 : Nat) == some .eq) = true := c6
    (try (have c6b1 : decide (FloatKind.f64.format.order t475 (0 : Nat) = some .eq) = true := by simpa using c6))
    (try (have c6b2 : (FloatKind.f64.format.order t475 (0 : Nat) == some .eq) = true := by simpa using c6))
    clear c6
    have H' := Aside0.mk H
    clear H
    go_wp2
    go_meet
    case rel => exact ⟨_, (true), sqE, H', ⟨by first | omega | exact Nat.le_refl _⟩, ⟨sqB⟩⟩
   rw [if_neg c6] at H
   have c6b0 : (FloatKind.f64.format.order t475 (0 : Nat) == some .eq) = false := by simpa using c6
   (try (have c6b1 : decide (FloatKind.f64.format.order t475 (0 : Nat) = some .eq) = false := by simpa using c6))
   (try (have c6b2 : (FloatKind.f64.format.order t475 (0 : Nat) == some .eq) = false := by simpa using c6))
   (try (have c6b3 : ¬ (FloatKind.f64.format.order t475 (0 : Nat) = some .eq) := by simpa using c6))
   clear c6
   by_cases c7 : a0.toList = ([105, 110, 102] : List UInt8)
   ·rw [if_pos c7] at H
    have c7b0 := beq_iff_eq.mpr c7
    have c7b1 := bne_eq_false_iff_eq.mpr c7
    clear c7
    have H' := Aside0.mk H
    clear H
    go_wp2
    go_meet
    case rel => exact ⟨_, (true), sqE, H', ⟨by first | omega | exact Nat.le_refl _⟩, ⟨sqB⟩⟩
   rw [if_neg c7] at H
   have c7b0 := beq_eq_false_iff_ne.mpr c7
   have c7b1 := bne_iff_ne.mpr c7
   have H' := Aside0.mk H
   clear H
   go_wp2
   go_meet
   case rel => exact ⟨_, ((a0.toList == ([45, 105, 110, 102] : List UInt8))), sqE, H', ⟨by first | omega | exact Nat.le_refl _⟩, ⟨sqB⟩⟩
  rw [if_neg c5] at H
  have c5b0 := beq_eq_false_iff_ne.mpr c5
  have c5b1 := bne_iff_ne.mpr c5
  (first | rw [c5b0] | (simp only [i64_w, i32_w]; rw [c5b0]) | skip)
  have H' := Aside0.mk H
  clear H
  go_wp2
  go_meet
  case rel => exact ⟨_, (true), sqE, H', ⟨by first | omega | exact Nat.le_refl _⟩, ⟨sqB⟩⟩
 case rest =>
  clear HC3
  try clear c1
  try clear p2
  try clear c5
  try clear c5b0
  try clear c5b1
  try clear c6
  try clear c6b0
  try clear c6b1
  try clear c6b2
  try clear c7
  try clear c7b0
  try clear c7b1
  obtain ⟨kq, x23_2, rfl, HA, HJ2, HB⟩ := hcut
  cases kq with
  | zero => exact absurd HA.out (by simp [endonymlaw2_WeighFewest.j0])
  | succ kj2 =>
   have H := HA.out
   clear HA
   simp only [endonymlaw2_WeighFewest.j0] at H
   by_cases c8 : x23_2 = true
   ·subst c8
    have H1 : ((endonymlaw2_told.f kj2).bind fun t477 => (some t477)) = some r := by rw [if_pos rfl] at H; exact H
    clear H
    have H := H1
    clear H1
    replace H := Option.bind_eq_some_iff.mp H
    obtain ⟨t477, A90, H⟩ := H
    try dsimp only at H
    have A9 := Aside0.mk A90
    clear A90
    obtain rfl := Option.some.inj H
    go_wp2_with (first | ((with_reducible refine gate_callee (f := 12) rfl ?_); refine goesL_ (some 24) rfl rfl Tryd.func12 (by kernel_rfl) rfl #[] rfl sqA ?_; (with_reducible refine (endonymlaw2_told.calls kj2  t477 _ ⟨htab.out.below sqB⟩ A9.out).mono ?_); rintro e w10 ⟨rfl, hb⟩; refine ⟨_, rfl, ?_⟩; have n0_ := Aside0.mk (below_step sqB hb); clear HB; have HB := n0_; clear n0_; (try clear hb); (try clear hb2); (try clear hk); (try clear hi)))
    go_ret
    exact ⟨sqE', sqB⟩
   replace c8 := Bool.eq_false_iff.mpr c8
   subst c8
   have H1 : ((endonymlaw2_told.f kj2).bind fun t478 => (if t478 = true then ((weigh_Print.f kj2 t475).bind fun t479 => ((endonymlaw2_digits.f kj2 t479).bind fun t480 => ((endonymlaw2_digits.f kj2 a0).bind fun t481 => (some (decide (t480 ≤ t481)))))) else (some false))) = some r := by rw [if_neg (show ¬ (false = true) by decide)] at H; exact H
   clear H
   have H := H1
   clear H1
   replace H := Option.bind_eq_some_iff.mp H
   obtain ⟨t478, A110, H⟩ := H
   try dsimp only at H
   have A11 := Aside0.mk A110
   clear A110
   by_cases c12 : t478 = true
   ·subst c12
    have H1 : ((weigh_Print.f kj2 t475).bind fun t479 => ((endonymlaw2_digits.f kj2 t479).bind fun t480 => ((endonymlaw2_digits.f kj2 a0).bind fun t481 => (some (decide (t480 ≤ t481)))))) = some r := by rw [if_pos rfl] at H; exact H
    clear H
    have H := H1
    clear H1
    replace H := Option.bind_eq_some_iff.mp H
    obtain ⟨t479, A130, H⟩ := H
    try dsimp only at H
    have A13 := Aside0.mk A130
    clear A130
    replace H := Option.bind_eq_some_iff.mp H
    obtain ⟨t480, A140, H⟩ := H
    try dsimp only at H
    have A14 := Aside0.mk A140
    clear A140
    replace H := Option.bind_eq_some_iff.mp H
    obtain ⟨t481, A150, H⟩ := H
    try dsimp only at H
    have A15 := Aside0.mk A150
    clear A150
    obtain rfl := Option.some.inj H
    go_wp2_with (first | ((with_reducible refine gate_callee (f := 12) rfl ?_); refine goesL_ (some 25) rfl rfl Tryd.func12 (by kernel_rfl) rfl #[] rfl sqA ?_; (with_reducible refine (endonymlaw2_told.calls kj2  true _ ⟨htab.out.below sqB⟩ A11.out).mono ?_); rintro e w16 ⟨rfl, hb⟩; refine ⟨_, rfl, ?_⟩; have n0_ := Aside0.mk (below_step sqB hb); clear HB; have HB := n0_; clear n0_; (try clear hb); (try clear hb2); (try clear hk); (try clear hi)) | (go_at_call 18; (with_reducible refine (weigh_Print.calls kj2 t475 t479 _ ⟨htab.out.below sqB⟩ A13.out).mono ?_); rintro e w17 ⟨rfl, hb⟩; have n0_ := Aside0.mk (below_step sqB hb); clear HB; have HB := n0_; clear n0_; (try clear hb); (try clear hb2); (try clear hk); (try clear hi)) | (go_at_call 20; (with_reducible refine (endonymlaw2_digits.calls kj2 t479 t480 _ A14.out).mono ?_); rintro e w' ⟨rfl, ⟨nd, rfl⟩⟩) | (go_at_call 20; (with_reducible refine (endonymlaw2_digits.calls kj2 a0 t481 _ A15.out).mono ?_); rintro e w' ⟨rfl, ⟨nd, rfl⟩⟩))
    go_ret
    exact ⟨sqE', sqB⟩
   replace c12 := Bool.eq_false_iff.mpr c12
   subst c12
   have H1 : (some false) = some r := by rw [if_neg (show ¬ (false = true) by decide)] at H; exact H
   clear H
   have H := H1
   clear H1
   obtain rfl := Option.some.inj H
   go_wp2_with (first | ((with_reducible refine gate_callee (f := 12) rfl ?_); refine goesL_ (some 25) rfl rfl Tryd.func12 (by kernel_rfl) rfl #[] rfl sqA ?_; (with_reducible refine (endonymlaw2_told.calls kj2  false _ ⟨htab.out.below sqB⟩ A11.out).mono ?_); rintro e w18 ⟨rfl, hb⟩; refine ⟨_, rfl, ?_⟩; have n0_ := Aside0.mk (below_step sqB hb); clear HB; have HB := n0_; clear n0_; (try clear hb); (try clear hb2); (try clear hk); (try clear hi)))
   go_ret
   exact ⟨sqE', sqB⟩

end Go.Proofs.YtfmjdoofopamkaaDoor.W
