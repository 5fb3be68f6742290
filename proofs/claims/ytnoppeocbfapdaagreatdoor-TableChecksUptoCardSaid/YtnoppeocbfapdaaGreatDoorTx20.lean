import Derived.Test.YtnoppeocbfapdaaGreatDoorTx0
import Derived.Test.YtnoppeocbfapdaaGreatDoorTx1
namespace Go.Proofs.YtnoppeocbfapdaaGreatDoor.T
open Go.RowKit Go.Proofs.YtnoppeocbfapdaaGreatDoorW.PrintWords Go.Proofs.YtnoppeocbfapdaaGreatDoorW.PrintLast Go.Proofs.YtnoppeocbfapdaaGreatDoorW.PrintMore
set_option maxHeartbeats 8000000
set_option maxRecDepth 100000
attribute [local go_sem] max2_int min2_int max_two min_two max_three min_three max_four min_four
set_option linter.unusedVariables false
set_option linter.unusedSimpArgs false
mutual
def endonymref5_Name.j0 : Nat → ByteArray → Bool → Option (Bool)
 | 0, _, _ => none
 | k + 1, x0, x16 => if x16 = true then (some false) else (endonymref5_Name.l0 k x0 1)
def endonymref5_Name.l0 : Nat → ByteArray → Int → Option (Bool)
 | 0, _, _ => none
 | k + 1, x0, x3 => if x3 < 4 then (if 0 ≤ x3 then (if x3 < (x0.size : Int) then (if (bt x0 x3) < 97 then (some false) else (if (bt x0 x3) > 122 then (some false) else (endonymref5_Name.l0 k x0 (wrap64 (x3 + 1))))) else (none)) else (none)) else (some true)
end
def endonymref5_Name.f (k : Nat) (a0 : ByteArray) : Option (Bool) := if (a0.size : Int) = 4 then (if 0 < (a0.size : Int) then (if (bt a0 0) < 65 then (endonymref5_Name.j0 k a0 true) else (endonymref5_Name.j0 k a0 (decide ((bt a0 0) > 90)))) else (none)) else (endonymref5_Name.j0 k a0 true)
theorem endonymref5_Name.mono_l : ∀ k, (∀ y0 y1, LeO (endonymref5_Name.j0 k y0 y1) (endonymref5_Name.j0 (k + 1) y0 y1)) ∧ (∀ y0 y1, LeO (endonymref5_Name.l0 k y0 y1) (endonymref5_Name.l0 (k + 1) y0 y1))
 | 0 => ⟨fun _ _ r h => by simp [endonymref5_Name.j0] at h, fun _ _ r h => by simp [endonymref5_Name.l0] at h⟩
 | k + 1 => by
  obtain ⟨ih0, ih1⟩ := endonymref5_Name.mono_l k
  refine ⟨?_, ?_⟩
  ·intro y0 y1
   unfold endonymref5_Name.j0
   repeat' first | (with_reducible first | apply ih0 | apply ih1 | apply LeO.refl | apply LeO.none | refine LeO.ite ?_ ?_ | refine LeO.bind ?_ (fun _ => ?_)) | apply LeO.none | refine LeO.ite ?_ ?_ | refine LeO.bind ?_ (fun _ => ?_)
  intro y0 y1
  unfold endonymref5_Name.l0
  repeat' first | (with_reducible first | apply ih0 | apply ih1 | apply LeO.refl | apply LeO.none | refine LeO.ite ?_ ?_ | refine LeO.bind ?_ (fun _ => ?_)) | apply LeO.none | refine LeO.ite ?_ ?_ | refine LeO.bind ?_ (fun _ => ?_)
theorem endonymref5_Name.mono : ∀ a0 k, LeO (endonymref5_Name.f k a0) (endonymref5_Name.f (k + 1) a0) := by
 intro a0 k
 obtain ⟨ih0, ih1⟩ := endonymref5_Name.mono_l k
 unfold endonymref5_Name.f
 repeat' first | (with_reducible first | apply ih0 | apply ih1 | apply LeO.refl | apply LeO.none | refine LeO.ite ?_ ?_ | refine LeO.bind ?_ (fun _ => ?_)) | apply LeO.none | refine LeO.ite ?_ ?_ | refine LeO.bind ?_ (fun _ => ?_)
theorem endonymref5_Name.calls (k : Nat) (a0 : ByteArray) (r : Bool) (w : World) (h : endonymref5_Name.f k a0 = some r) :
  Calls Tryz.prog 54 #[.string a0] w fun e w' => e = .returned (.bool r) ∧ Drawn0 w w' := by
 have H : (if (a0.size : Int) = 4 then (if 0 < (a0.size : Int) then (if (bt a0 0) < 65 then (endonymref5_Name.j0 k a0 true) else (endonymref5_Name.j0 k a0 (decide ((bt a0 0) > 90)))) else (none)) else (endonymref5_Name.j0 k a0 true)) = some r := h
 clear h
 have HC2 := Aside0.mk H
 clear H
 go_enter Tryz.func54, Tryz.ntmps54
 go_upto_region 1 with (fail)
 go_cut [16] (fun v16 wc => ∃ (kq : Nat) (x16_1 : Bool), v16 = .bool x16_1 ∧ Aside0 (endonymref5_Name.j0 kq a0 x16_1 = some r) ∧ Aside0 (kq ≤ k) ∧ Drawn0 w wc)
 case first =>
  have H := HC2.out
  clear HC2
  by_cases c3 : (a0.size : Int) = 4
  case neg =>
   rw [if_neg c3] at H
   have c3b0 := beq_eq_false_iff_ne.mpr c3
   have c3b1 := bne_iff_ne.mpr c3
   (first | rw [c3b0] | (simp only [i64_w, i32_w]; rw [c3b0]) | skip)
   have H' := Aside0.mk H
   clear H
   go_wp2
   go_meet
   case rel => exact ⟨_, (true), sqE, H', ⟨by first | omega | exact Nat.le_refl _⟩, sqW⟩
  rw [if_pos c3] at H
  have c3b0 := beq_iff_eq.mpr c3
  have c3b1 := bne_eq_false_iff_eq.mpr c3
  clear c3
  (first | rw [c3b0] | (simp only [i64_w, i32_w]; rw [c3b0]) | skip)
  by_cases c4 : 0 < (a0.size : Int)
  case neg => rw [if_neg c4] at H; exact absurd H (by simp)
  rw [if_pos c4] at H
  have c4b0 := decide_eq_true c4
  have c4b1 : decide (0 < a0.size) = true := decide_eq_true (by omega)
  clear c4
  by_cases c6 : (bt a0 0) < 65
  ·rw [if_pos c6] at H
   have c6b0 := decide_eq_true c6
   clear c6
   have H' := Aside0.mk H
   clear H
   have p5 : 0 ≤ (0 : Int) := (by omega)
   have q5 : 0 < a0.size := (by have : (0 : Int) < (a0.size : Int) := sqD; omega)
   have hx5 : ∀ h : 0 < a0.size, ((a0[0]'h).toNat : Int) = bt a0 0 := bt_at a0 0
   clear p5
   have qi5 : (0 < (a0.size : Int)) = True := eq_true sqD
   replace q5 := eq_true q5
   go_wp2
   go_meet
   case rel => exact ⟨_, (true), sqE, H', ⟨by first | omega | exact Nat.le_refl _⟩, sqW⟩
  rw [if_neg c6] at H
  have c6b0 := decide_eq_false c6
  clear c6
  have H' := Aside0.mk H
  clear H
  have p5 : 0 ≤ (0 : Int) := (by omega)
  have q5 : 0 < a0.size := (by have : (0 : Int) < (a0.size : Int) := sqD; omega)
  have hx5 : ∀ h : 0 < a0.size, ((a0[0]'h).toNat : Int) = bt a0 0 := bt_at a0 0
  clear p5
  have qi5 : (0 < (a0.size : Int)) = True := eq_true sqD
  replace q5 := eq_true q5
  have p7 : 0 ≤ (0 : Int) := (by omega)
  have q7 : 0 < a0.size := (by have : (0 : Int) < (a0.size : Int) := sqD; omega)
  have hx7 : ∀ h : 0 < a0.size, ((a0[0]'h).toNat : Int) = bt a0 0 := bt_at a0 0
  clear p7
  have qi7 : (0 < (a0.size : Int)) = True := eq_true sqD
  replace q7 := eq_true q7
  go_wp2
  go_meet
  case rel => exact ⟨_, (decide ((bt a0 0) > 90)), sqE, H', ⟨by first | omega | exact Nat.le_refl _⟩, sqW⟩
 case rest =>
  clear HC2
  obtain ⟨kq, x16_1, rfl, HA, HJ1, ⟨mc1, rfl⟩⟩ := hcut
  cases kq with
  | zero => exact absurd HA.out (by simp [endonymref5_Name.j0])
  | succ kj1 =>
   have H := HA.out
   clear HA
   simp only [endonymref5_Name.j0] at H
   by_cases c8 : x16_1 = true
   ·subst c8
    rw [if_pos rfl] at H
    obtain rfl := Option.some.inj H
    go_wp2
    go_ret
    exact ⟨sqE, sqW⟩
   replace c8 := Bool.eq_false_iff.mpr c8
   subst c8
   rw [if_neg (show ¬ (false = true) by decide)] at H
   have H' := Aside0.mk H
   clear H
   go_wp2
   go_loopg [3] kj1 (fun kq v3 w' => ∃ (x3_2 : Int), v3 = .int .i64 x3_2 ∧ Aside0 (endonymref5_Name.l0 kq a0 x3_2 = some r) ∧ Aside0 (kq ≤ kj1) ∧ Drawn0 w w')
   case atStart => exact ⟨(1), sqE, H', ⟨Nat.le_refl _⟩, sqW⟩
   case round =>
    clear H'
    try clear c8
    obtain ⟨x3_2, rfl, HA, HK2, ⟨m2, rfl⟩⟩ := hrel
    cases gk with
    | zero => exact absurd HA.out (by simp [endonymref5_Name.l0])
    | succ k2 =>
     have H := HA.out
     clear HA
     simp only [endonymref5_Name.l0] at H
     by_cases c9 : x3_2 < 4
     case neg =>
      rw [if_neg c9] at H
      have c9b0 := decide_eq_false c9
      clear c9
      obtain rfl := Option.some.inj H
      go_wp2
      go_ret
      exact ⟨sqE, sqW⟩
     rw [if_pos c9] at H
     have c9b0 := decide_eq_true c9
     clear c9
     by_cases c10 : 0 ≤ x3_2
     case neg => rw [if_neg c10] at H; exact absurd H (by simp)
     rw [if_pos c10] at H
     have c10b0 := decide_eq_true c10
     clear c10
     by_cases c11 : x3_2 < (a0.size : Int)
     case neg => rw [if_neg c11] at H; exact absurd H (by simp)
     rw [if_pos c11] at H
     have c11b0 := decide_eq_true c11
     clear c11
     by_cases c13 : (bt a0 x3_2) < 97
     ·rw [if_pos c13] at H
      have c13b0 := decide_eq_true c13
      clear c13
      obtain rfl := Option.some.inj H
      have p12 : 0 ≤ (x3_2 : Int) := sqD
      have q12 : x3_2 < (a0.size : Int) := sqD
      have hx12 := bt_at a0 x3_2
      replace p12 := eq_true p12
      replace q12 := eq_true q12
      go_wp2
      go_ret
      exact ⟨sqE, sqW⟩
     rw [if_neg c13] at H
     have c13b0 := decide_eq_false c13
     clear c13
     by_cases c15 : (bt a0 x3_2) > 122
     ·rw [if_pos c15] at H
      have c15b0 := decide_eq_true c15
      clear c15
      obtain rfl := Option.some.inj H
      have p12 : 0 ≤ (x3_2 : Int) := sqD
      have q12 : x3_2 < (a0.size : Int) := sqD
      have hx12 := bt_at a0 x3_2
      replace p12 := eq_true p12
      replace q12 := eq_true q12
      have p14 : 0 ≤ (x3_2 : Int) := sqD
      have q14 : x3_2 < (a0.size : Int) := sqD
      have hx14 := bt_at a0 x3_2
      replace p14 := eq_true p14
      replace q14 := eq_true q14
      go_wp2
      go_ret
      exact ⟨sqE, sqW⟩
     rw [if_neg c15] at H
     have c15b0 := decide_eq_false c15
     clear c15
     have H' := Aside0.mk H
     clear H
     have p12 : 0 ≤ (x3_2 : Int) := sqD
     have q12 : x3_2 < (a0.size : Int) := sqD
     have hx12 := bt_at a0 x3_2
     replace p12 := eq_true p12
     replace q12 := eq_true q12
     have p14 : 0 ≤ (x3_2 : Int) := sqD
     have q14 : x3_2 < (a0.size : Int) := sqD
     have hx14 := bt_at a0 x3_2
     replace p14 := eq_true p14
     replace q14 := eq_true q14
     go_wp2
     go_roundg k2
     case measure => have := HJ1.out; have := HK2.out; omega
     case rel => exact ⟨(wrap64 (x3_2 + 1)), sqE, H', ⟨by have := HJ1.out; have := HK2.out; omega⟩, sqW⟩
def endonymref6_weight.f (a0 : Nat) : Option (Bool) := (api_Bits.f a0).bind fun t570 => (some (decide (t570 ≤ 9218868437227405312)))
theorem endonymref6_weight.calls (a0 : Nat) (r : Bool) (w : World) (h : endonymref6_weight.f a0 = some r) :
  Calls Tryz.prog 55 #[.float .f64 a0] w fun e w' => e = .returned (.bool r) ∧ Drawn0 w w' := by
 have H : ((api_Bits.f a0).bind fun t570 => (some (decide (t570 ≤ 9218868437227405312)))) = some r := h
 clear h
 obtain ⟨t570, A2, H⟩ := sqO H
 try dsimp only at H
 obtain rfl := Option.some.inj H
 go_enter Tryz.func55, Tryz.ntmps55
 go_wp2_with (first | ((with_reducible refine gate_callee (f := 52) rfl ?_); refine goesL_ (some 5) rfl rfl Tryz.func52 (by kernel_rfl) rfl #[.float .f64 a0] rfl sqA ?_; (with_reducible refine (api_Bits.calls a0 t570 _ A2.out).mono ?_); rintro e w' ⟨rfl, ⟨nd, rfl⟩⟩; refine ⟨_, rfl, ?_⟩))
 go_ret
 exact ⟨sqE, sqW⟩
def endonymref3_Valid.f (a0 : Int) : Option (Bool) := if a0 ≥ 0 then (if a0 ≤ 55295 then (some true) else (if a0 ≥ 57344 then (some (decide (a0 ≤ 1114111))) else (some false))) else (if a0 ≥ 57344 then (some (decide (a0 ≤ 1114111))) else (some false))
theorem endonymref3_Valid.calls (a0 : Int) (r : Bool) (w : World) (h : endonymref3_Valid.f a0 = some r) :
  Calls Tryz.prog 56 #[.int .i32 a0] w fun e w' => e = .returned (.bool r) ∧ Drawn0 w w' := by
 have H : (if a0 ≥ 0 then (if a0 ≤ 55295 then (some true) else (if a0 ≥ 57344 then (some (decide (a0 ≤ 1114111))) else (some false))) else (if a0 ≥ 57344 then (some (decide (a0 ≤ 1114111))) else (some false))) = some r := h
 clear h
 by_cases c2 : a0 ≥ 0
 case neg =>
  rw [if_neg c2] at H
  have c2b0 := decide_eq_false c2
  clear c2
  by_cases c5 : a0 ≥ 57344
  ·rw [if_pos c5] at H
   have c5b0 := decide_eq_true c5
   clear c5
   obtain rfl := Option.some.inj H
   go_enter Tryz.func56, Tryz.ntmps56
   go_wp2
   go_ret
   exact ⟨sqE, sqW⟩
  rw [if_neg c5] at H
  have c5b0 := decide_eq_false c5
  clear c5
  obtain rfl := Option.some.inj H
  go_enter Tryz.func56, Tryz.ntmps56
  go_wp2
  go_ret
  exact ⟨sqE, sqW⟩
 rw [if_pos c2] at H
 have c2b0 := decide_eq_true c2
 clear c2
 by_cases c3 : a0 ≤ 55295
 ·rw [if_pos c3] at H
  have c3b0 := decide_eq_true c3
  clear c3
  obtain rfl := Option.some.inj H
  go_enter Tryz.func56, Tryz.ntmps56
  go_wp2
  go_ret
  exact ⟨sqE, sqW⟩
 rw [if_neg c3] at H
 have c3b0 := decide_eq_false c3
 clear c3
 by_cases c4 : a0 ≥ 57344
 ·rw [if_pos c4] at H
  have c4b0 := decide_eq_true c4
  clear c4
  obtain rfl := Option.some.inj H
  go_enter Tryz.func56, Tryz.ntmps56
  go_wp2
  go_ret
  exact ⟨sqE, sqW⟩
 rw [if_neg c4] at H
 have c4b0 := decide_eq_false c4
 clear c4
 obtain rfl := Option.some.inj H
 go_enter Tryz.func56, Tryz.ntmps56
 go_wp2
 go_ret
 exact ⟨sqE, sqW⟩
def endonymref3_Sound.l0 : Nat → List Int → Int → Option (Bool)
 | 0, _, _ => none
 | k + 1, x0, x3 => if x3 < (x0.length : Int) then (if 0 ≤ x3 then ((endonymref3_Valid.f (rd x0 x3)).bind fun t572 => (if t572 = true then (endonymref3_Sound.l0 k x0 (wrap64 (x3 + 1))) else (some false))) else (none)) else (some true)
def endonymref3_Sound.f (k : Nat) (l0 : List Int) : Option (Bool) := endonymref3_Sound.l0 k l0 0
theorem endonymref3_Sound.mono_l : ∀ k, (∀ y0 y1, LeO (endonymref3_Sound.l0 k y0 y1) (endonymref3_Sound.l0 (k + 1) y0 y1))
 | 0 => fun _ _ r h => by simp [endonymref3_Sound.l0] at h
 | k + 1 => by
  have ih0 := endonymref3_Sound.mono_l k
  intro y0 y1
  unfold endonymref3_Sound.l0
  repeat' first | (with_reducible first | apply ih0 | apply LeO.refl | apply LeO.none | refine LeO.ite ?_ ?_ | refine LeO.bind ?_ (fun _ => ?_)) | apply LeO.none | refine LeO.ite ?_ ?_ | refine LeO.bind ?_ (fun _ => ?_)
theorem endonymref3_Sound.mono : ∀ a0 k, LeO (endonymref3_Sound.f k a0) (endonymref3_Sound.f (k + 1) a0) := by
 intro a0 k
 have ih0 := endonymref3_Sound.mono_l k
 unfold endonymref3_Sound.f
 repeat' first | (with_reducible first | apply ih0 | apply LeO.refl | apply LeO.none | refine LeO.ite ?_ ?_ | refine LeO.bind ?_ (fun _ => ?_)) | apply LeO.none | refine LeO.ite ?_ ?_ | refine LeO.bind ?_ (fun _ => ?_)
theorem endonymref3_Sound.calls (k : Nat) (A0 : Option Addr) (c0 : Nat) (l0 : List Int) (r : Bool) (w : World) (hr0 : Kd.C (Kd.int .i32) w A0 l0.length l0) (hc0 : l0.length ≤ c0) (h : endonymref3_Sound.f k l0 = some r) :
  Calls Tryz.prog 91 #[.slice A0 l0.length c0] w fun e w' => e = .returned (.bool r) ∧ Drawn0 w w' := by
 have HR0 := Aside0.mk hr0
 have HC0 := Aside0.mk hc0
 clear hr0 hc0
 have H : (endonymref3_Sound.l0 k l0 0) = some r := h
 clear h
 have H' := Aside0.mk H
 clear H
 go_enter Tryz.func91, Tryz.ntmps91
 go_wp2
 go_loopg [3] k (fun kq v3 w' => ∃ (x3_1 : Int), v3 = .int .i64 x3_1 ∧ Aside0 (endonymref3_Sound.l0 kq l0 x3_1 = some r) ∧ Aside0 (kq ≤ k) ∧ Drawn0 w w')
 case atStart => exact ⟨(0), sqE, H', ⟨Nat.le_refl _⟩, sqW⟩
 case round =>
  clear H'
  obtain ⟨x3_1, rfl, HA, HK1, ⟨m1, rfl⟩⟩ := hrel
  cases gk with
  | zero => exact absurd HA.out (by simp [endonymref3_Sound.l0])
  | succ k1 =>
   have H := HA.out
   clear HA
   simp only [endonymref3_Sound.l0] at H
   by_cases c2 : x3_1 < (l0.length : Int)
   case neg =>
    rw [if_neg c2] at H
    have c2b0 := decide_eq_false c2
    clear c2
    obtain rfl := Option.some.inj H
    go_wp2
    go_ret
    exact ⟨sqE, sqW⟩
   rw [if_pos c2] at H
   have c2b0 := decide_eq_true c2
   clear c2
   by_cases c3 : 0 ≤ x3_1
   case neg => rw [if_neg c3] at H; exact absurd H (by simp)
   rw [if_pos c3] at H
   have c3b0 := decide_eq_true c3
   clear c3
   obtain ⟨t572, A4, H⟩ := sqO H
   try dsimp only at H
   by_cases c5 : t572 = true
   ·subst c5
    rw [if_pos rfl] at H
    have H' := Aside0.mk H
    clear H
    have p571 : 0 ≤ (x3_1 : Int) := sqD
    have q571 : x3_1 < (l0.length : Int) := sqD
    obtain ⟨ad571, e571, hx571_0⟩ := Kd.at_int HR0.out x3_1 p571 q571
    cases e571
    replace p571 := eq_true p571
    replace q571 := eq_true q571
    go_wp2_with (first | ((with_reducible refine gate_callee (f := 56) rfl ?_); refine goesL_ (some 14) rfl rfl Tryz.func56 (by kernel_rfl) rfl #[.int .i32 (rd l0 x3_1)] rfl sqA ?_; (with_reducible refine (endonymref3_Valid.calls (rd l0 x3_1) true _ A4.out).mono ?_); rintro e w' ⟨rfl, ⟨nd, rfl⟩⟩; refine ⟨_, rfl, ?_⟩))
    go_roundg k1
    case measure => have := HK1.out; omega
    case rel => exact ⟨(wrap64 (x3_1 + 1)), sqE, H', ⟨by have := HK1.out; omega⟩, sqW⟩
   replace c5 := Bool.eq_false_iff.mpr c5
   subst c5
   rw [if_neg (show ¬ (false = true) by decide)] at H
   obtain rfl := Option.some.inj H
   have p571 : 0 ≤ (x3_1 : Int) := sqD
   have q571 : x3_1 < (l0.length : Int) := sqD
   obtain ⟨ad571, e571, hx571_0⟩ := Kd.at_int HR0.out x3_1 p571 q571
   cases e571
   replace p571 := eq_true p571
   replace q571 := eq_true q571
   go_wp2_with (first | ((with_reducible refine gate_callee (f := 56) rfl ?_); refine goesL_ (some 14) rfl rfl Tryz.func56 (by kernel_rfl) rfl #[.int .i32 (rd l0 x3_1)] rfl sqA ?_; (with_reducible refine (endonymref3_Valid.calls (rd l0 x3_1) false _ A4.out).mono ?_); rintro e w' ⟨rfl, ⟨nd, rfl⟩⟩; refine ⟨_, rfl, ?_⟩))
   go_ret
   exact ⟨sqE, sqW⟩
def endonymref6_list.f (k : Nat) (l0 : List Int) (a1 : Int) (a2 : Int) : Option (Bool) := if (l0.length : Int) ≥ a1 then (if (l0.length : Int) ≤ a2 then ((endonymref3_Sound.f k l0).bind fun t573 => (some t573)) else (some false)) else (some false)
theorem endonymref6_list.mono : ∀ a0 a1 a2 k, LeO (endonymref6_list.f k a0 a1 a2) (endonymref6_list.f (k + 1) a0 a1 a2) := by
 intro a0 a1 a2 k
 unfold endonymref6_list.f
 repeat' first | (with_reducible first | apply endonymref3_Sound.mono | apply LeO.refl | apply LeO.none | refine LeO.ite ?_ ?_ | refine LeO.bind ?_ (fun _ => ?_)) | apply LeO.none | refine LeO.ite ?_ ?_ | refine LeO.bind ?_ (fun _ => ?_)
theorem endonymref6_list.calls (k : Nat) (A0 : Option Addr) (c0 : Nat) (l0 : List Int) (a1 : Int) (a2 : Int) (r : Bool) (w : World) (hr0 : Kd.C (Kd.int .i32) w A0 l0.length l0) (hc0 : l0.length ≤ c0) (h : endonymref6_list.f k l0 a1 a2 = some r) :
  Calls Tryz.prog 57 #[.slice A0 l0.length c0, .int .i64 a1, .int .i64 a2] w fun e w' => e = .returned (.bool r) ∧ Drawn0 w w' := by
 have HR0 := Aside0.mk hr0
 have HC0 := Aside0.mk hc0
 clear hr0 hc0
 have H : (if (l0.length : Int) ≥ a1 then (if (l0.length : Int) ≤ a2 then ((endonymref3_Sound.f k l0).bind fun t573 => (some t573)) else (some false)) else (some false)) = some r := h
 clear h
 by_cases c4 : (l0.length : Int) ≥ a1
 case neg =>
  rw [if_neg c4] at H
  have c4b0 := decide_eq_false c4
  clear c4
  obtain rfl := Option.some.inj H
  go_enter Tryz.func57, Tryz.ntmps57
  go_wp2
  go_ret
  exact ⟨sqE, sqW⟩
 rw [if_pos c4] at H
 have c4b0 := decide_eq_true c4
 clear c4
 by_cases c5 : (l0.length : Int) ≤ a2
 case neg =>
  rw [if_neg c5] at H
  have c5b0 := decide_eq_false c5
  clear c5
  obtain rfl := Option.some.inj H
  go_enter Tryz.func57, Tryz.ntmps57
  go_wp2
  go_ret
  exact ⟨sqE, sqW⟩
 rw [if_pos c5] at H
 have c5b0 := decide_eq_true c5
 clear c5
 obtain ⟨t573, A6, H⟩ := sqO H
 try dsimp only at H
 obtain rfl := Option.some.inj H
 go_enter Tryz.func57, Tryz.ntmps57
 go_wp2_with (first | (go_at_call 91; (with_reducible refine (endonymref3_Sound.calls k _ _ l0 t573 _ ?side1 ?side2 A6.out).mono ?_); (case side1 => repeat (first | exact HR0.out | (with_reducible refine Kd.C_alloc ?_ _) | (with_reducible refine Kd.C_drewN ?_ _) | (with_reducible refine Kd.C_drew ?_))); (case side2 => exact HC0.out); rintro e w' ⟨rfl, ⟨nd, rfl⟩⟩))
 go_ret
 exact ⟨sqE, sqW⟩
end Go.Proofs.YtnoppeocbfapdaaGreatDoor.T
