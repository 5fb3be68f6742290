import Derived.Test.YtfmjdoofopamkaaGreatDoorWx0
namespace Go.Proofs.YtfmjdoofopamkaaGreatDoor.W
open Go.RowKit Go.Proofs.YtfmjdoofopamkaaGreatDoorW.PrintWords Go.Proofs.YtfmjdoofopamkaaGreatDoorW.PrintLast Go.Proofs.YtfmjdoofopamkaaGreatDoorW.PrintMore
set_option maxHeartbeats 8000000
set_option maxRecDepth 100000
attribute [local go_sem] max2_int min2_int max_two min_two max_three min_three max_four min_four
set_option linter.unusedVariables false
set_option linter.unusedSimpArgs false
mutual
def endonymref2_odd.l0 : Nat → List Int → Bool → Bool → Int → Option (Int × Bool)
 | 0, _, _, _, _ => none
 | k + 1, x0, x4, x5, x6 => if x6 < (x0.length : Int) then (if 0 ≤ x6 then (if (Go.bits .andNot .u64 (rd x0 x6) 9223372036854775808) > 9218868437227405312 then (some (9221120237041090560, true)) else (if x4 = true then (if x5 = true then (endonymref2_odd.l0 k x0 true true (wrap64 (x6 + 1))) else (endonymref2_odd.l0 k x0 true ((rd x0 x6) == 18442240474082181120) (wrap64 (x6 + 1)))) else (if x5 = true then (endonymref2_odd.l0 k x0 ((rd x0 x6) == 9218868437227405312) true (wrap64 (x6 + 1))) else (endonymref2_odd.l0 k x0 ((rd x0 x6) == 9218868437227405312) ((rd x0 x6) == 18442240474082181120) (wrap64 (x6 + 1)))))) else (none)) else (if x4 = true then (endonymref2_odd.j1 k x4 x5 x5) else (endonymref2_odd.j1 k x4 x5 false))
def endonymref2_odd.j1 : Nat → Bool → Bool → Bool → Option (Int × Bool)
 | 0, _, _, _ => none
 | k + 1, x4, x5, x35 => if x35 = true then (some (9221120237041090560, true)) else (if x4 = true then (some (9218868437227405312, true)) else (if x5 = true then (some (18442240474082181120, true)) else (some (0, false))))
end
def endonymref2_odd.f (k : Nat) (l0 : List Int) : Option (Int × Bool) := endonymref2_odd.l0 k l0 false false 0
theorem endonymref2_odd.mono_l : ∀ k, (∀ y0 y1 y2 y3, LeO (endonymref2_odd.l0 k y0 y1 y2 y3) (endonymref2_odd.l0 (k + 1) y0 y1 y2 y3)) ∧ (∀ y0 y1 y2, LeO (endonymref2_odd.j1 k y0 y1 y2) (endonymref2_odd.j1 (k + 1) y0 y1 y2))
 | 0 => ⟨fun _ _ _ _ r h => by simp [endonymref2_odd.l0] at h, fun _ _ _ r h => by simp [endonymref2_odd.j1] at h⟩
 | k + 1 => by
  obtain ⟨ih0, ih1⟩ := endonymref2_odd.mono_l k
  refine ⟨?_, ?_⟩
  ·intro y0 y1 y2 y3
   unfold endonymref2_odd.l0
   repeat' first | (with_reducible first | apply ih0 | apply ih1 | apply LeO.refl | apply LeO.none | refine LeO.ite ?_ ?_ | refine LeO.bind ?_ (fun _ => ?_)) | apply LeO.none | refine LeO.ite ?_ ?_ | refine LeO.bind ?_ (fun _ => ?_)
  intro y0 y1 y2
  unfold endonymref2_odd.j1
  repeat' first | (with_reducible first | apply ih0 | apply ih1 | apply LeO.refl | apply LeO.none | refine LeO.ite ?_ ?_ | refine LeO.bind ?_ (fun _ => ?_)) | apply LeO.none | refine LeO.ite ?_ ?_ | refine LeO.bind ?_ (fun _ => ?_)
theorem endonymref2_odd.mono : ∀ a0 k, LeO (endonymref2_odd.f k a0) (endonymref2_odd.f (k + 1) a0) := by
 intro a0 k
 obtain ⟨ih0, ih1⟩ := endonymref2_odd.mono_l k
 unfold endonymref2_odd.f
 repeat' first | (with_reducible first | apply ih0 | apply ih1 | apply LeO.refl | apply LeO.none | refine LeO.ite ?_ ?_ | refine LeO.bind ?_ (fun _ => ?_)) | apply LeO.none | refine LeO.ite ?_ ?_ | refine LeO.bind ?_ (fun _ => ?_)
theorem endonymref2_odd.calls (k : Nat) (A0 : Option Addr) (c0 : Nat) (l0 : List Int) (r1 : Int) (r2 : Bool) (w : World) (hr0 : Kd.C (Kd.int .u64) w A0 l0.length l0) (hc0 : l0.length ≤ c0) (h : endonymref2_odd.f k l0 = some (r1, r2)) :
  Calls Tryz.prog 47 #[.slice A0 l0.length c0] w fun e w' => e = .returned (.tuple #[.int .u64 r1, .bool r2]) ∧ Drawn0 w w' := by
 have HR0 := Aside0.mk hr0
 have HC0 := Aside0.mk hc0
 clear hr0 hc0
 have H : (endonymref2_odd.l0 k l0 false false 0) = some (r1, r2) := h
 clear h
 have H' := Aside0.mk H
 clear H
 go_enter Tryz.func47, Tryz.ntmps47
 go_wp2
 go_loopg [4, 5, 6] k (fun kq v4 v5 v6 w' => ∃ (x4_1 : Bool) (x5_1 : Bool) (x6_1 : Int), v4 = .bool x4_1 ∧ v5 = .bool x5_1 ∧ v6 = .int .i64 x6_1 ∧ Aside0 (endonymref2_odd.l0 kq l0 x4_1 x5_1 x6_1 = some (r1, r2)) ∧ Aside0 (kq ≤ k) ∧ Drawn0 w w')
 case atStart => exact ⟨(false), (false), (0), sqE, sqE, sqE, H', ⟨Nat.le_refl _⟩, sqW⟩
 case round =>
  clear H'
  obtain ⟨x4_1, x5_1, x6_1, rfl, rfl, rfl, HA, HK1, ⟨m1, rfl⟩⟩ := hrel
  cases gk with
  | zero => exact absurd HA.out (by simp [endonymref2_odd.l0])
  | succ k1 =>
   have H := HA.out
   clear HA
   simp only [endonymref2_odd.l0] at H
   by_cases c2 : x6_1 < (l0.length : Int)
   case neg =>
    rw [if_neg c2] at H
    have c2b0 := decide_eq_false c2
    clear c2
    have HC8 := Aside0.mk H
    clear H
    go_upto_region 9 with (fail)
    go_cut [35] (fun v35 wc => ∃ (kq : Nat) (x35_7 : Bool), v35 = .bool x35_7 ∧ Aside0 (endonymref2_odd.j1 kq x4_1 x5_1 x35_7 = some (r1, r2)) ∧ Aside0 (kq ≤ k1) ∧ Drawn0 w wc)
    case first =>
     have H := HC8.out
     clear HC8
     by_cases c9 : x4_1 = true
     ·subst c9
      have H1 : (endonymref2_odd.j1 k1 true x5_1 x5_1) = some (r1, r2) := by rw [if_pos rfl] at H; exact H
      clear H
      have H := H1
      clear H1
      have H' := Aside0.mk H
      clear H
      go_wp2
      go_meet
      case rel => exact ⟨_, (x5_1), sqE, H', ⟨by have := HK1.out; first | omega | exact Nat.le_refl _⟩, sqW⟩
     replace c9 := Bool.eq_false_iff.mpr c9
     subst c9
     have H1 : (endonymref2_odd.j1 k1 false x5_1 false) = some (r1, r2) := by rw [if_neg (show ¬ (false = true) by decide)] at H; exact H
     clear H
     have H := H1
     clear H1
     have H' := Aside0.mk H
     clear H
     go_wp2
     go_meet
     case rel => exact ⟨_, (false), sqE, H', ⟨by have := HK1.out; first | omega | exact Nat.le_refl _⟩, sqW⟩
    case rest =>
     clear HC8
     try clear c2
     try clear c2b0
     try clear p2
     try clear c3
     try clear c3b0
     try clear c4
     try clear c4b0
     try clear p4
     try clear q4
     try clear hx4
     try clear c5
     try clear c6
     try clear p6
     try clear c7
     try clear c9
     try clear hx477_0
     try clear hx478_0
     try clear hx479_0
     try clear hx480_0
     try clear p477
     try clear p478
     try clear p479
     try clear p480
     try clear q477
     try clear q478
     try clear q479
     try clear q480
     obtain ⟨kq, x35_7, rfl, HA, HJ7, ⟨mc7, rfl⟩⟩ := hcut
     cases kq with
     | zero => exact absurd HA.out (by simp [endonymref2_odd.j1])
     | succ kj7 =>
      have H := HA.out
      clear HA
      simp only [endonymref2_odd.j1] at H
      by_cases c10 : x35_7 = true
      ·subst c10
       have H1 : (some (9221120237041090560, true)) = some (r1, r2) := by rw [if_pos rfl] at H; exact H
       clear H
       have H := H1
       clear H1
       simp only [Option.some.injEq, Prod.mk.injEq] at H
       obtain ⟨rfl, rfl⟩ := H
       go_wp2
       go_ret2
       exact ⟨sqE, sqW⟩
      replace c10 := Bool.eq_false_iff.mpr c10
      subst c10
      have H1 : (if x4_1 = true then (some (9218868437227405312, true)) else (if x5_1 = true then (some (18442240474082181120, true)) else (some (0, false)))) = some (r1, r2) := by rw [if_neg (show ¬ (false = true) by decide)] at H; exact H
      clear H
      have H := H1
      clear H1
      by_cases c11 : x4_1 = true
      ·subst c11
       have H1 : (some (9218868437227405312, true)) = some (r1, r2) := by rw [if_pos rfl] at H; exact H
       clear H
       have H := H1
       clear H1
       simp only [Option.some.injEq, Prod.mk.injEq] at H
       obtain ⟨rfl, rfl⟩ := H
       go_wp2
       go_ret2
       exact ⟨sqE, sqW⟩
      replace c11 := Bool.eq_false_iff.mpr c11
      subst c11
      have H1 : (if x5_1 = true then (some (18442240474082181120, true)) else (some (0, false))) = some (r1, r2) := by rw [if_neg (show ¬ (false = true) by decide)] at H; exact H
      clear H
      have H := H1
      clear H1
      by_cases c12 : x5_1 = true
      ·subst c12
       have H1 : (some (18442240474082181120, true)) = some (r1, r2) := by rw [if_pos rfl] at H; exact H
       clear H
       have H := H1
       clear H1
       simp only [Option.some.injEq, Prod.mk.injEq] at H
       obtain ⟨rfl, rfl⟩ := H
       go_wp2
       go_ret2
       exact ⟨sqE, sqW⟩
      replace c12 := Bool.eq_false_iff.mpr c12
      subst c12
      have H1 : (some (0, false)) = some (r1, r2) := by rw [if_neg (show ¬ (false = true) by decide)] at H; exact H
      clear H
      have H := H1
      clear H1
      simp only [Option.some.injEq, Prod.mk.injEq] at H
      obtain ⟨rfl, rfl⟩ := H
      go_wp2
      go_ret2
      exact ⟨sqE, sqW⟩
   rw [if_pos c2] at H
   have c2b0 := decide_eq_true c2
   clear c2
   by_cases c3 : 0 ≤ x6_1
   case neg => rw [if_neg c3] at H; exact absurd H (by simp)
   rw [if_pos c3] at H
   have c3b0 := decide_eq_true c3
   clear c3
   by_cases c4 : (Go.bits .andNot .u64 (rd l0 x6_1) 9223372036854775808) > 9218868437227405312
   ·rw [if_pos c4] at H
    have c4b0 := decide_eq_true c4
    clear c4
    simp only [Option.some.injEq, Prod.mk.injEq] at H
    obtain ⟨rfl, rfl⟩ := H
    have p477 : 0 ≤ (x6_1 : Int) := sqD
    have q477 : x6_1 < (l0.length : Int) := sqD
    obtain ⟨ad477, e477, hx477_0⟩ := Kd.at_int HR0.out x6_1 p477 q477
    cases e477
    replace p477 := eq_true p477
    replace q477 := eq_true q477
    go_wp2
    go_ret2
    exact ⟨sqE, sqW⟩
   rw [if_neg c4] at H
   have c4b0 := decide_eq_false c4
   clear c4
   by_cases c5 : x4_1 = true
   ·subst c5
    have H1 : (if x5_1 = true then (endonymref2_odd.l0 k1 l0 true true (wrap64 (x6_1 + 1))) else (endonymref2_odd.l0 k1 l0 true ((rd l0 x6_1) == 18442240474082181120) (wrap64 (x6_1 + 1)))) = some (r1, r2) := by rw [if_pos rfl] at H; exact H
    clear H
    have H := H1
    clear H1
    by_cases c6 : x5_1 = true
    ·subst c6
     have H1 : (endonymref2_odd.l0 k1 l0 true true (wrap64 (x6_1 + 1))) = some (r1, r2) := by rw [if_pos rfl] at H; exact H
     clear H
     have H := H1
     clear H1
     have H' := Aside0.mk H
     clear H
     have p477 : 0 ≤ (x6_1 : Int) := sqD
     have q477 : x6_1 < (l0.length : Int) := sqD
     obtain ⟨ad477, e477, hx477_0⟩ := Kd.at_int HR0.out x6_1 p477 q477
     cases e477
     replace p477 := eq_true p477
     replace q477 := eq_true q477
     go_wp2
     go_roundg k1
     case measure => have := HK1.out; omega
     case rel => exact ⟨(true), (true), (wrap64 (x6_1 + 1)), sqE, sqE, sqE, H', ⟨by have := HK1.out; omega⟩, sqW⟩
    replace c6 := Bool.eq_false_iff.mpr c6
    subst c6
    have H1 : (endonymref2_odd.l0 k1 l0 true ((rd l0 x6_1) == 18442240474082181120) (wrap64 (x6_1 + 1))) = some (r1, r2) := by rw [if_neg (show ¬ (false = true) by decide)] at H; exact H
    clear H
    have H := H1
    clear H1
    have H' := Aside0.mk H
    clear H
    have p477 : 0 ≤ (x6_1 : Int) := sqD
    have q477 : x6_1 < (l0.length : Int) := sqD
    obtain ⟨ad477, e477, hx477_0⟩ := Kd.at_int HR0.out x6_1 p477 q477
    cases e477
    replace p477 := eq_true p477
    replace q477 := eq_true q477
    have p478 : 0 ≤ (x6_1 : Int) := sqD
    have q478 : x6_1 < (l0.length : Int) := sqD
    obtain ⟨ad478, e478, hx478_0⟩ := Kd.at_int HR0.out x6_1 p478 q478
    obtain rfl : ad477 = ad478 := (by injection e478)
    replace p478 := eq_true p478
    replace q478 := eq_true q478
    go_wp2
    go_roundg k1
    case measure => have := HK1.out; omega
    case rel => exact ⟨(true), (((rd l0 x6_1) == 18442240474082181120)), (wrap64 (x6_1 + 1)), sqE, sqE, sqE, H', ⟨by have := HK1.out; omega⟩, sqW⟩
   replace c5 := Bool.eq_false_iff.mpr c5
   subst c5
   have H1 : (if x5_1 = true then (endonymref2_odd.l0 k1 l0 ((rd l0 x6_1) == 9218868437227405312) true (wrap64 (x6_1 + 1))) else (endonymref2_odd.l0 k1 l0 ((rd l0 x6_1) == 9218868437227405312) ((rd l0 x6_1) == 18442240474082181120) (wrap64 (x6_1 + 1)))) = some (r1, r2) := by rw [if_neg (show ¬ (false = true) by decide)] at H; exact H
   clear H
   have H := H1
   clear H1
   by_cases c7 : x5_1 = true
   ·subst c7
    have H1 : (endonymref2_odd.l0 k1 l0 ((rd l0 x6_1) == 9218868437227405312) true (wrap64 (x6_1 + 1))) = some (r1, r2) := by rw [if_pos rfl] at H; exact H
    clear H
    have H := H1
    clear H1
    have H' := Aside0.mk H
    clear H
    have p477 : 0 ≤ (x6_1 : Int) := sqD
    have q477 : x6_1 < (l0.length : Int) := sqD
    obtain ⟨ad477, e477, hx477_0⟩ := Kd.at_int HR0.out x6_1 p477 q477
    cases e477
    replace p477 := eq_true p477
    replace q477 := eq_true q477
    have p479 : 0 ≤ (x6_1 : Int) := sqD
    have q479 : x6_1 < (l0.length : Int) := sqD
    obtain ⟨ad479, e479, hx479_0⟩ := Kd.at_int HR0.out x6_1 p479 q479
    obtain rfl : ad477 = ad479 := (by injection e479)
    replace p479 := eq_true p479
    replace q479 := eq_true q479
    go_wp2
    go_roundg k1
    case measure => have := HK1.out; omega
    case rel => exact ⟨(((rd l0 x6_1) == 9218868437227405312)), (true), (wrap64 (x6_1 + 1)), sqE, sqE, sqE, H', ⟨by have := HK1.out; omega⟩, sqW⟩
   replace c7 := Bool.eq_false_iff.mpr c7
   subst c7
   have H1 : (endonymref2_odd.l0 k1 l0 ((rd l0 x6_1) == 9218868437227405312) ((rd l0 x6_1) == 18442240474082181120) (wrap64 (x6_1 + 1))) = some (r1, r2) := by rw [if_neg (show ¬ (false = true) by decide)] at H; exact H
   clear H
   have H := H1
   clear H1
   have H' := Aside0.mk H
   clear H
   have p477 : 0 ≤ (x6_1 : Int) := sqD
   have q477 : x6_1 < (l0.length : Int) := sqD
   obtain ⟨ad477, e477, hx477_0⟩ := Kd.at_int HR0.out x6_1 p477 q477
   cases e477
   replace p477 := eq_true p477
   replace q477 := eq_true q477
   have p479 : 0 ≤ (x6_1 : Int) := sqD
   have q479 : x6_1 < (l0.length : Int) := sqD
   obtain ⟨ad479, e479, hx479_0⟩ := Kd.at_int HR0.out x6_1 p479 q479
   obtain rfl : ad477 = ad479 := (by injection e479)
   replace p479 := eq_true p479
   replace q479 := eq_true q479
   have p480 : 0 ≤ (x6_1 : Int) := sqD
   have q480 : x6_1 < (l0.length : Int) := sqD
   obtain ⟨ad480, e480, hx480_0⟩ := Kd.at_int HR0.out x6_1 p480 q480
   obtain rfl : ad477 = ad480 := (by injection e480)
   replace p480 := eq_true p480
   replace q480 := eq_true q480
   go_wp2
   go_roundg k1
   case measure => have := HK1.out; omega
   case rel => exact ⟨(((rd l0 x6_1) == 9218868437227405312)), (((rd l0 x6_1) == 18442240474082181120)), (wrap64 (x6_1 + 1)), sqE, sqE, sqE, H', ⟨by have := HK1.out; omega⟩, sqW⟩
def endonymref2_trim.l0 : Nat → List Int → Int → Option (List Int)
 | 0, _, _ => none
 | k + 1, x0, x3 => if x3 > 0 then (if 0 ≤ (wrap64 (x3 - 1)) then (if (wrap64 (x3 - 1)) < (x0.length : Int) then (if (rd x0 (wrap64 (x3 - 1))) = 0 then (endonymref2_trim.l0 k x0 (wrap64 (x3 - 1))) else (if 0 ≤ x3 then (if x3 ≤ (x0.length : Int) then (some (x0.take (x3 : Int).toNat)) else (none)) else (none))) else (none)) else (none)) else (if 0 ≤ x3 then (if x3 ≤ (x0.length : Int) then (some (x0.take (x3 : Int).toNat)) else (none)) else (none))
def endonymref2_trim.f (k : Nat) (l0 : List Int) : Option (List Int) := endonymref2_trim.l0 k l0 (l0.length : Int)
theorem endonymref2_trim.mono_l : ∀ k, (∀ y0 y1, LeO (endonymref2_trim.l0 k y0 y1) (endonymref2_trim.l0 (k + 1) y0 y1))
 | 0 => fun _ _ r h => by simp [endonymref2_trim.l0] at h
 | k + 1 => by
  have ih0 := endonymref2_trim.mono_l k
  intro y0 y1
  unfold endonymref2_trim.l0
  repeat' first | (with_reducible first | apply ih0 | apply LeO.refl | apply LeO.none | refine LeO.ite ?_ ?_ | refine LeO.bind ?_ (fun _ => ?_)) | apply LeO.none | refine LeO.ite ?_ ?_ | refine LeO.bind ?_ (fun _ => ?_)
theorem endonymref2_trim.mono : ∀ a0 k, LeO (endonymref2_trim.f k a0) (endonymref2_trim.f (k + 1) a0) := by
 intro a0 k
 have ih0 := endonymref2_trim.mono_l k
 unfold endonymref2_trim.f
 repeat' first | (with_reducible first | apply ih0 | apply LeO.refl | apply LeO.none | refine LeO.ite ?_ ?_ | refine LeO.bind ?_ (fun _ => ?_)) | apply LeO.none | refine LeO.ite ?_ ?_ | refine LeO.bind ?_ (fun _ => ?_)
theorem endonymref2_trim.calls (k : Nat) (P0_ : Nat → Prop) (u9000_ : Value) (l0 : List Int) (r : List Int) (w0 w : World) (hB : Below w0.heap.size w0 w) (ho0 : Kd.R (Kd.int .u32) 83 w w0.heap.size P0_ u9000_ l0) (h : endonymref2_trim.f k l0 = some r) :
  Calls Tryz.prog 89 #[u9000_] w fun e w' => ∃ v0_ : Value, e = .returned (v0_) ∧ Kd.R (Kd.int .u32) 83 w' w0.heap.size (fun k_ => (P0_ k_ ∨ w.heap.size ≤ k_)) v0_ r ∧ Below w0.heap.size w0 w' ∧ Kept w w' (fun k_ => P0_ k_) := by
 have HO0 := Aside0.mk (show Kd.R (Kd.int .u32) 83 w w0.heap.size (fun k_ => (P0_ k_ ∨ w.heap.size ≤ k_)) u9000_ l0 from Kd.R_mono ho0 (fun k_ hk => (.inl hk)))
 have HK := Aside0.mk (Kept.refl w (fun k_ => P0_ k_))
 have HW0 := Aside0.mk hB.size
 have HB := Aside0.mk hB
 clear hB
 have H : (endonymref2_trim.l0 k l0 (l0.length : Int)) = some r := h
 clear h
 have H' := Aside0.mk H
 clear H
 obtain ⟨Ao2, co2, eo2⟩ := Kd.R_slice HO0.out
 subst eo2
 go_enter Tryz.func89, Tryz.ntmps89
 go_wp2
 go_loopg [3] k (fun kq v3 w' => ∃ (x3_1 : Int), v3 = .int .i64 x3_1 ∧ Aside0 (endonymref2_trim.l0 kq l0 x3_1 = some r) ∧ Aside0 (kq ≤ k) ∧ Aside0 (Kd.R (Kd.int .u32) 83 w' w0.heap.size (fun k_ => (P0_ k_ ∨ w.heap.size ≤ k_)) (.slice Ao2 l0.length co2) l0) ∧ Aside0 (Kept w w' (fun k_ => P0_ k_)) ∧ Aside0 (Below w0.heap.size w0 w'))
 case atStart => exact ⟨((l0.length : Int)), sqE, H', ⟨Nat.le_refl _⟩, ⟨sqR HO0.out⟩, ⟨by repeat (first | (with_reducible first | exact HK.out | apply Kept.alloc | apply Kept.drewN | apply Kept.drew) | exact HK.out)⟩, ⟨sqB⟩⟩
 case round =>
  clear H'
  try clear p2
  obtain ⟨x3_1, rfl, HA, HK1, HO_0, HK, HB⟩ := hrel
  cases gk with
  | zero => exact absurd HA.out (by simp [endonymref2_trim.l0])
  | succ k1 =>
   have H := HA.out
   clear HA
   simp only [endonymref2_trim.l0] at H
   by_cases c3 : x3_1 > 0
   case neg =>
    rw [if_neg c3] at H
    have c3b0 := decide_eq_false c3
    clear c3
    by_cases c11 : 0 ≤ x3_1
    case neg => rw [if_neg c11] at H; exact absurd H (by simp)
    rw [if_pos c11] at H
    have c11b0 := eq_true c11
    have c11b1 := decide_eq_true c11
    clear c11
    by_cases c12 : x3_1 ≤ (l0.length : Int)
    case neg => rw [if_neg c12] at H; exact absurd H (by simp)
    rw [if_pos c12] at H
    have c12b0 := eq_true c12
    have c12b1 := decide_eq_true c12
    clear c12
    obtain ⟨y485, hy485⟩ : ∃ y_ : List Int, y_ = (l0.take (x3_1 : Int).toNat) := ⟨_, rfl⟩
    replace H : (some y485) = some r := by first | (rw [hy485]; with_reducible exact H) | (have H2_ := (Option.bind_some _ _).symm.trans H; rw [hy485]; with_reducible exact H2_) | (have H2_ := (Option.bind_some _ _).symm.trans H; with_reducible exact H2_) | with_reducible exact H | (rw [hy485]; exact H) | exact H
    have Ny485 := Aside0.mk hy485
    clear hy485
    obtain rfl := Option.some.inj H
    have q13 : (x3_1 : Int) ≤ ((l0.length : Int) : Int) := sqD
    obtain ⟨i013, hi013, _, hsz13, _⟩ := info_parts info83
    have hcut13 := cut_to (P := Tryz.prog) 71 83 .i64 Tryz.underlying71 hi013 Ao2 l0.length co2 x3_1 sqD q13 (Kd.R_reads' HO_0.out).2.1
    have hr13 := Kd.R_take (m := (x3_1 : Int).toNat) HO_0.out (by omega)
    have hy13 : y485.length = (x3_1 : Int).toNat := (by rw [Ny485.out, List.length_take]; omega)
    rw [← Ny485.out] at hr13
    rw [← hy13] at hr13 hcut13
    clear hy13 hi013 hsz13 HO_0
    have HO487 := Aside0.mk hr13
    clear hr13
    replace q13 := eq_true q13
    go_wp2
    go_ret
    exact ⟨_, sqE', sqR HO487.out, sqB, by repeat (first | (with_reducible first | exact HK.out | apply Kept.alloc | apply Kept.drewN | apply Kept.drew) | exact HK.out)⟩
   rw [if_pos c3] at H
   have c3b0 := decide_eq_true c3
   clear c3
   obtain ⟨ji4, hji4⟩ : ∃ j_ : Int, (wrap64 (x3_1 - 1)) = j_ := ⟨_, rfl⟩
   replace H : (if 0 ≤ (ji4) then (if (ji4) < (l0.length : Int) then (if (rd l0 (ji4)) = 0 then (endonymref2_trim.l0 k1 l0 ji4) else (if 0 ≤ x3_1 then (if x3_1 ≤ (l0.length : Int) then (some (l0.take (x3_1 : Int).toNat)) else (none)) else (none))) else (none)) else (none)) = some r := by first | (rw [hji4] at H; exact H) | (simp only [hji4] at H ⊢; exact H)
   have hji4w : (IntKind.i64.wrap (x3_1 - 1)) = ji4 := (i64_w _).trans hji4
   by_cases c5 : 0 ≤ (ji4)
   case neg => rw [if_neg c5] at H; exact absurd H (by simp)
   rw [if_pos c5] at H
   have c5b0 := decide_eq_true c5
   clear c5
   by_cases c6 : (ji4) < (l0.length : Int)
   case neg => rw [if_neg c6] at H; exact absurd H (by simp)
   rw [if_pos c6] at H
   have c6b0 := decide_eq_true c6
   clear c6
   by_cases c7 : (rd l0 (ji4)) = 0
   ·rw [if_pos c7] at H
    have c7b0 := beq_iff_eq.mpr c7
    have c7b1 := bne_eq_false_iff_eq.mpr c7
    clear c7
    have H' := Aside0.mk H
    clear H
    have p481 : 0 ≤ ((ji4) : Int) := sqD
    have q481 : (ji4) < (l0.length : Int) := sqD
    obtain ⟨ad481, e481, hx481_0⟩ := Kd.at_int (Kd.R_reads' HO_0.out).2.2 (ji4) p481 q481
    cases e481
    replace p481 := eq_true p481
    replace q481 := eq_true q481
    go_wp2
    go_roundg k1
    case measure => have := HK1.out; omega
    case rel => exact ⟨(ji4), (by first | rfl | (simp; done) | (simp only [← hji4] <;> (first | rfl | simp)) | (simp [*]; done)), H', ⟨by have := HK1.out; omega⟩, ⟨sqR HO_0.out⟩, ⟨by repeat (first | (with_reducible first | exact HK.out | apply Kept.alloc | apply Kept.drewN | apply Kept.drew) | exact HK.out)⟩, ⟨sqB⟩⟩
   rw [if_neg c7] at H
   have c7b0 := beq_eq_false_iff_ne.mpr c7
   have c7b1 := bne_iff_ne.mpr c7
   by_cases c8 : 0 ≤ x3_1
   case neg => rw [if_neg c8] at H; exact absurd H (by simp)
   rw [if_pos c8] at H
   have c8b0 := eq_true c8
   have c8b1 := decide_eq_true c8
   clear c8
   by_cases c9 : x3_1 ≤ (l0.length : Int)
   case neg => rw [if_neg c9] at H; exact absurd H (by simp)
   rw [if_pos c9] at H
   have c9b0 := eq_true c9
   have c9b1 := decide_eq_true c9
   clear c9
   obtain ⟨y482, hy482⟩ : ∃ y_ : List Int, y_ = (l0.take (x3_1 : Int).toNat) := ⟨_, rfl⟩
   replace H : (some y482) = some r := by first | (rw [hy482]; with_reducible exact H) | (have H2_ := (Option.bind_some _ _).symm.trans H; rw [hy482]; with_reducible exact H2_) | (have H2_ := (Option.bind_some _ _).symm.trans H; with_reducible exact H2_) | with_reducible exact H | (rw [hy482]; exact H) | exact H
   have Ny482 := Aside0.mk hy482
   clear hy482
   obtain rfl := Option.some.inj H
   have p481 : 0 ≤ ((ji4) : Int) := sqD
   have q481 : (ji4) < (l0.length : Int) := sqD
   obtain ⟨ad481, e481, hx481_0⟩ := Kd.at_int (Kd.R_reads' HO_0.out).2.2 (ji4) p481 q481
   cases e481
   replace p481 := eq_true p481
   replace q481 := eq_true q481
   have q10 : (x3_1 : Int) ≤ ((l0.length : Int) : Int) := sqD
   obtain ⟨i010, hi010, _, hsz10, _⟩ := info_parts info83
   have hcut10 := cut_to (P := Tryz.prog) 71 83 .i64 Tryz.underlying71 hi010 (some ad481) l0.length co2 x3_1 sqD q10 (Kd.R_reads' HO_0.out).2.1
   have hr10 := Kd.R_take (m := (x3_1 : Int).toNat) HO_0.out (by omega)
   have hy10 : y482.length = (x3_1 : Int).toNat := (by rw [Ny482.out, List.length_take]; omega)
   rw [← Ny482.out] at hr10
   rw [← hy10] at hr10 hcut10
   clear hy10 hi010 hsz10 HO_0
   have HO484 := Aside0.mk hr10
   clear hr10
   replace q10 := eq_true q10
   go_wp2
   go_ret
   exact ⟨_, by first | rfl | (simp [errW_none, errW_some] <;> rfl) | (simp only [← hji4]; first | rfl | (simp [errW_none, errW_some] <;> rfl)) | (simp [*, errW_none, errW_some] <;> rfl), sqR HO484.out, sqB, by repeat (first | (with_reducible first | exact HK.out | apply Kept.alloc | apply Kept.drewN | apply Kept.drew) | exact HK.out)⟩
mutual
def endonymref2_Times.l0 : Nat → List Int → Int → List Int → Int → Int → Option (List Int)
 | 0, _, _, _, _, _ => none
 | k + 1, x0, x1, x7, x8, x9 => if x9 < (x0.length : Int) then (if 0 ≤ x9 then (if x7.length < 35184372088832 then (endonymref2_Times.l0 k x0 x1 (x7 ++ [Go.bits .and .u32 ((x8 + (((rd x0 x9) * x1))) % 4294967296) 65535]) (((x8 + (((rd x0 x9) * x1))) % 4294967296) / 65536) (wrap64 (x9 + 1))) else (none)) else (none)) else (endonymref2_Times.l1 k x7 x8)
def endonymref2_Times.l1 : Nat → List Int → Int → Option (List Int)
 | 0, _, _ => none
 | k + 1, x7, x8 => if x8 > 0 then (if x7.length < 35184372088832 then (endonymref2_Times.l1 k (x7 ++ [Go.bits .and .u32 x8 65535]) (x8 / 65536)) else (none)) else ((endonymref2_trim.f k x7).bind fun t495 => (some t495))
end
def endonymref2_Times.f (k : Nat) (l0 : List Int) (a1 : Int) (a2 : Int) : Option (List Int) := endonymref2_Times.l0 k l0 a1 ([] : List Int) a2 0
theorem endonymref2_Times.mono_l : ∀ k, (∀ y0 y1 y2 y3 y4, LeO (endonymref2_Times.l0 k y0 y1 y2 y3 y4) (endonymref2_Times.l0 (k + 1) y0 y1 y2 y3 y4)) ∧ (∀ y0 y1, LeO (endonymref2_Times.l1 k y0 y1) (endonymref2_Times.l1 (k + 1) y0 y1))
 | 0 => ⟨fun _ _ _ _ _ r h => by simp [endonymref2_Times.l0] at h, fun _ _ r h => by simp [endonymref2_Times.l1] at h⟩
 | k + 1 => by
  obtain ⟨ih0, ih1⟩ := endonymref2_Times.mono_l k
  refine ⟨?_, ?_⟩
  ·intro y0 y1 y2 y3 y4
   unfold endonymref2_Times.l0
   repeat' first | (with_reducible first | apply ih0 | apply ih1 | apply endonymref2_trim.mono | apply LeO.refl | apply LeO.none | refine LeO.ite ?_ ?_ | refine LeO.bind ?_ (fun _ => ?_)) | apply LeO.none | refine LeO.ite ?_ ?_ | refine LeO.bind ?_ (fun _ => ?_)
  intro y0 y1
  unfold endonymref2_Times.l1
  repeat' first | (with_reducible first | apply ih0 | apply ih1 | apply endonymref2_trim.mono | apply LeO.refl | apply LeO.none | refine LeO.ite ?_ ?_ | refine LeO.bind ?_ (fun _ => ?_)) | apply LeO.none | refine LeO.ite ?_ ?_ | refine LeO.bind ?_ (fun _ => ?_)
theorem endonymref2_Times.mono : ∀ a0 a1 a2 k, LeO (endonymref2_Times.f k a0 a1 a2) (endonymref2_Times.f (k + 1) a0 a1 a2) := by
 intro a0 a1 a2 k
 obtain ⟨ih0, ih1⟩ := endonymref2_Times.mono_l k
 unfold endonymref2_Times.f
 repeat' first | (with_reducible first | apply ih0 | apply ih1 | apply endonymref2_trim.mono | apply LeO.refl | apply LeO.none | refine LeO.ite ?_ ?_ | refine LeO.bind ?_ (fun _ => ?_)) | apply LeO.none | refine LeO.ite ?_ ?_ | refine LeO.bind ?_ (fun _ => ?_)
theorem endonymref2_Times.calls (k : Nat) (A0 : Option Addr) (c0 : Nat) (l0 : List Int) (a1 : Int) (a2 : Int) (r : List Int) (w : World) (hr0 : Kd.C (Kd.int .u32) w A0 l0.length l0) (hc0 : l0.length ≤ c0) (h : endonymref2_Times.f k l0 a1 a2 = some r) :
  Calls Tryz.prog 61 #[.slice A0 l0.length c0, .int .u32 a1, .int .u32 a2] w fun e w' => ∃ v0_ : Value, e = .returned (v0_) ∧ Kd.R (Kd.int .u32) 83 w' w.heap.size (fun _ => True) v0_ r ∧ Below w.heap.size w w' := by
 have HR0 := Aside0.mk hr0
 have HC0 := Aside0.mk hc0
 clear hr0 hc0
 have HB := Aside0.mk (Below.refl w.heap.size w)
 have H : (endonymref2_Times.l0 k l0 a1 ([] : List Int) a2 0) = some r := h
 clear h
 have H' := Aside0.mk H
 clear H
 go_enter Tryz.func61, Tryz.ntmps61
 go_wp2
 go_loopg [7, 8, 9] k (fun kq v7 v8 v9 w' => ∃ (x7_1 : List Int) (x8_1 : Int) (x9_1 : Int), v8 = .int .u32 x8_1 ∧ v9 = .int .i64 x9_1 ∧ Aside0 (endonymref2_Times.l0 kq l0 a1 x7_1 x8_1 x9_1 = some r) ∧ Aside0 (kq ≤ k) ∧ Aside0 (Kd.R (Kd.int .u32) 83 w' w.heap.size (fun _ => True) v7 x7_1) ∧ Aside0 (Below w.heap.size w w'))
 case atStart => exact ⟨(([] : List Int)), (a2), (0), sqE, sqE, H', ⟨Nat.le_refl _⟩, ⟨by first | exact Kd.R_nil _ _ _ _ _ | exact Kd.N_nil _ _ _ _ _ | exact Kd.V_nil _ _ _ _ _ | exact Kd.Q_nil _ _ _ _ _ | exact Kd.S_nil _ _ _ _ _⟩, ⟨sqB⟩⟩
 case round =>
  clear H'
  try clear p2
  obtain ⟨x7_1, x8_1, x9_1, rfl, rfl, HA, HK1, HO_7, HB⟩ := hrel
  cases gk with
  | zero => exact absurd HA.out (by simp [endonymref2_Times.l0])
  | succ k1 =>
   have H := HA.out
   clear HA
   simp only [endonymref2_Times.l0] at H
   by_cases c4 : x9_1 < (l0.length : Int)
   ·rw [if_pos c4] at H
    have c4b0 := decide_eq_true c4
    clear c4
    by_cases c5 : 0 ≤ x9_1
    case neg => rw [if_neg c5] at H; exact absurd H (by simp)
    rw [if_pos c5] at H
    have c5b0 := decide_eq_true c5
    clear c5
    by_cases c6 : x7_1.length < 35184372088832
    case neg => rw [if_neg c6] at H; exact absurd H (by simp)
    rw [if_pos c6] at H
    have LMc6 := Aside0.mk c6
    clear c6
    obtain ⟨y489, hy489⟩ : ∃ y_ : List Int, y_ = (x7_1 ++ [Go.bits .and .u32 ((x8_1 + (((rd l0 x9_1) * a1))) % 4294967296) 65535]) := ⟨_, rfl⟩
    replace H : (endonymref2_Times.l0 k1 l0 a1 y489 (((x8_1 + (((rd l0 x9_1) * a1))) % 4294967296) / 65536) (wrap64 (x9_1 + 1))) = some r := by first | (rw [hy489]; with_reducible exact H) | (have H2_ := (Option.bind_some _ _).symm.trans H; rw [hy489]; with_reducible exact H2_) | (have H2_ := (Option.bind_some _ _).symm.trans H; with_reducible exact H2_) | with_reducible exact H | (rw [hy489]; exact H) | exact H
    have Ny489 := Aside0.mk hy489
    clear hy489
    have H' := Aside0.mk H
    clear H
    have p488 : 0 ≤ (x9_1 : Int) := sqD
    have q488 : x9_1 < (l0.length : Int) := sqD
    obtain ⟨ad488, e488, hx488_0⟩ := Kd.at_int HR0.out x9_1 p488 q488
    cases e488
    replace hx488_0 := (HB.out.cell (World.block_lt_of_cell? w _ hx488_0)).trans hx488_0
    replace p488 := eq_true p488
    replace q488 := eq_true q488
    go_wp2_with (first | ((with_reducible refine gate_builtin (b := .append) (xs := #[.tmp 25, .tmp 28]) rfl ?_); at_builtin; refine Kd.R_append (Kd.int .u32) (w0 := w) w.heap.size rfl (.tmp 25) (.tmp 28) 71 83 (.int .u32 0) 4 rfl Tryz.underlying71 info83 rfl (by decide) (by omega) u7 x7_1 (Go.bits .and .u32 ((x8_1 + (((rd l0 x9_1) * a1))) % 4294967296) 65535) [.int .u32 (Go.bits .and .u32 ((x8_1 + (((rd l0 x9_1) * a1))) % 4294967296) 65535)] (fun _ => True) (fun _ => False) rfl rfl ?aP (fun _ hk => hk.elim) ?aF ?aO ?aB ?aS ?aL ?_; (case aP => exact rfl); (case aB => exact sqB); (case aF => exact (fun _ _ => trivial)); (case aO => exact (sqR HO_7.out)); (case aS => exact (below_size sqB)); (case aL => have := LMc6.out; omega); intro v490 w7 ho hb hg hat; rw [← Ny489.out] at ho; have n0_ := Aside0.mk (hb); have n1_ := Aside0.mk (ho); clear HB; clear HO_7; have HB := n0_; have HO491 := n1_; clear n0_ n1_; clear ho hb hg hat))
    go_roundg k1
    case measure => have := HK1.out; omega
    case rel => exact ⟨(y489), (((x8_1 + (((rd l0 x9_1) * a1))) % 4294967296) / 65536), (wrap64 (x9_1 + 1)), sqE, sqE, H', ⟨by have := HK1.out; omega⟩, ⟨sqR HO491.out⟩, ⟨sqB⟩⟩
   rw [if_neg c4] at H
   have c4b0 := decide_eq_false c4
   clear c4
   have H' := Aside0.mk H
   clear H
   go_wp2
   go_loopg [7, 8] k1 (fun kq v7 v8 w' => ∃ (x7_2 : List Int) (x8_2 : Int), v8 = .int .u32 x8_2 ∧ Aside0 (endonymref2_Times.l1 kq x7_2 x8_2 = some r) ∧ Aside0 (kq ≤ k1) ∧ Aside0 (Kd.R (Kd.int .u32) 83 w' w.heap.size (fun _ => True) v7 x7_2) ∧ Aside0 (Below w.heap.size w w'))
   case atStart => exact ⟨(x7_1), (x8_1), sqE, H', ⟨Nat.le_refl _⟩, ⟨sqR HO_7.out⟩, ⟨sqB⟩⟩
   case round =>
    clear H'
    try clear p2
    try clear c4
    try clear c4b0
    try clear p4
    try clear q4
    try clear hx4
    try clear c5
    try clear c5b0
    try clear c6
    try clear p6
    try clear hx488_0
    try clear p2
    try clear p488
    try clear q488
    obtain ⟨x7_2, x8_2, rfl, HA, HK2, HO_7, HB⟩ := hrel
    cases gk with
    | zero => exact absurd HA.out (by simp [endonymref2_Times.l1])
    | succ k2 =>
     have H := HA.out
     clear HA
     simp only [endonymref2_Times.l1] at H
     by_cases c8 : x8_2 > 0
     case neg =>
      rw [if_neg c8] at H
      have c8b0 := decide_eq_false c8
      clear c8
      obtain ⟨t495, A11, H⟩ := sqO H
      try dsimp only at H
      obtain rfl := Option.some.inj H
      obtain ⟨Ao12, co12, eo12⟩ := Kd.R_slice HO_7.out
      subst eo12
      go_wp2_with (first | ((with_reducible refine gate_callee (f := 89) rfl ?_); refine goesL_ (some 42) rfl rfl Tryz.func89 (by kernel_rfl) rfl #[.slice Ao12 x7_2.length co12] rfl sqA ?_; (with_reducible refine (endonymref2_trim.calls k2 (fun k_ => some k_ = (.slice Ao12 x7_2.length co12 : Value).ownBlock) (.slice Ao12 x7_2.length co12) x7_2 t495 w _ ?side1 ?side2 A11.out).mono ?_); (case side1 => repeat (first | (with_reducible first | exact HB.out | apply below_alloc | apply pw_below_drewN | apply below_drew1) | exact HB.out)); (case side2 => exact Kd.R_tight rfl HO_7.out); rintro e w13 ⟨v496, rfl, ho0, hb, hkp⟩; refine ⟨_, rfl, ?_⟩; have n0_ := Aside0.mk (Kd.R_mono (ok' := fun k_ => True) ho0 (fun k_ hk_ => trivial)); have n1_ := Aside0.mk (hb); clear HB; clear HO_7; have HO497 := n0_; have HB := n1_; clear n0_ n1_; (try clear hb); (try clear hkp); (try clear ho0)))
      go_ret
      exact ⟨_, sqE', sqR HO497.out, sqB⟩
     rw [if_pos c8] at H
     have c8b0 := decide_eq_true c8
     clear c8
     by_cases c9 : x7_2.length < 35184372088832
     case neg => rw [if_neg c9] at H; exact absurd H (by simp)
     rw [if_pos c9] at H
     have LMc9 := Aside0.mk c9
     clear c9
     obtain ⟨y492, hy492⟩ : ∃ y_ : List Int, y_ = (x7_2 ++ [Go.bits .and .u32 x8_2 65535]) := ⟨_, rfl⟩
     replace H : (endonymref2_Times.l1 k2 y492 (x8_2 / 65536)) = some r := by first | (rw [hy492]; with_reducible exact H) | (have H2_ := (Option.bind_some _ _).symm.trans H; rw [hy492]; with_reducible exact H2_) | (have H2_ := (Option.bind_some _ _).symm.trans H; with_reducible exact H2_) | with_reducible exact H | (rw [hy492]; exact H) | exact H
     have Ny492 := Aside0.mk hy492
     clear hy492
     have H' := Aside0.mk H
     clear H
     go_wp2_with (first | ((with_reducible refine gate_builtin (b := .append) (xs := #[.tmp 34, .tmp 37]) rfl ?_); at_builtin; refine Kd.R_append (Kd.int .u32) (w0 := w) w.heap.size rfl (.tmp 34) (.tmp 37) 71 83 (.int .u32 0) 4 rfl Tryz.underlying71 info83 rfl (by decide) (by omega) u7 x7_2 (Go.bits .and .u32 x8_2 65535) [.int .u32 (Go.bits .and .u32 x8_2 65535)] (fun _ => True) (fun _ => False) rfl rfl ?aP (fun _ hk => hk.elim) ?aF ?aO ?aB ?aS ?aL ?_; (case aP => exact rfl); (case aB => exact sqB); (case aF => exact (fun _ _ => trivial)); (case aO => exact (sqR HO_7.out)); (case aS => exact (below_size sqB)); (case aL => have := LMc9.out; omega); intro v493 w10 ho hb hg hat; rw [← Ny492.out] at ho; have n0_ := Aside0.mk (hb); have n1_ := Aside0.mk (ho); clear HB; clear HO_7; have HB := n0_; have HO494 := n1_; clear n0_ n1_; clear ho hb hg hat))
     go_roundg k2
     case measure => have := HK1.out; have := HK2.out; omega
     case rel => exact ⟨(y492), (x8_2 / 65536), sqE, H', ⟨by have := HK1.out; have := HK2.out; omega⟩, ⟨sqR HO494.out⟩, ⟨sqB⟩⟩
def endonymref2_Of.l0 : Nat → Int → List Int → Option (List Int)
 | 0, _, _ => none
 | k + 1, x0, x3 => if x0 > 0 then (if x3.length < 35184372088832 then (endonymref2_Of.l0 k (x0 / 65536) (x3 ++ [(Go.bits .and .u64 x0 65535) % 4294967296])) else (none)) else (some x3)
def endonymref2_Of.f (k : Nat) (a0 : Int) : Option (List Int) := endonymref2_Of.l0 k a0 ([] : List Int)
theorem endonymref2_Of.mono_l : ∀ k, (∀ y0 y1, LeO (endonymref2_Of.l0 k y0 y1) (endonymref2_Of.l0 (k + 1) y0 y1))
 | 0 => fun _ _ r h => by simp [endonymref2_Of.l0] at h
 | k + 1 => by
  have ih0 := endonymref2_Of.mono_l k
  intro y0 y1
  unfold endonymref2_Of.l0
  repeat' first | (with_reducible first | apply ih0 | apply LeO.refl | apply LeO.none | refine LeO.ite ?_ ?_ | refine LeO.bind ?_ (fun _ => ?_)) | apply LeO.none | refine LeO.ite ?_ ?_ | refine LeO.bind ?_ (fun _ => ?_)
theorem endonymref2_Of.mono : ∀ a0 k, LeO (endonymref2_Of.f k a0) (endonymref2_Of.f (k + 1) a0) := by
 intro a0 k
 have ih0 := endonymref2_Of.mono_l k
 unfold endonymref2_Of.f
 repeat' first | (with_reducible first | apply ih0 | apply LeO.refl | apply LeO.none | refine LeO.ite ?_ ?_ | refine LeO.bind ?_ (fun _ => ?_)) | apply LeO.none | refine LeO.ite ?_ ?_ | refine LeO.bind ?_ (fun _ => ?_)
theorem endonymref2_Of.calls (k : Nat) (a0 : Int) (r : List Int) (w : World) (h : endonymref2_Of.f k a0 = some r) :
  Calls Tryz.prog 65 #[.int .u64 a0] w fun e w' => ∃ v0_ : Value, e = .returned (v0_) ∧ Kd.R (Kd.int .u32) 83 w' w.heap.size (fun _ => True) v0_ r ∧ Below w.heap.size w w' := by
 have HB := Aside0.mk (Below.refl w.heap.size w)
 have H : (endonymref2_Of.l0 k a0 ([] : List Int)) = some r := h
 clear h
 have H' := Aside0.mk H
 clear H
 go_enter Tryz.func65, Tryz.ntmps65
 go_wp2
 go_loopg [0, 3] k (fun kq v0 v3 w' => ∃ (x0_1 : Int) (x3_1 : List Int), v0 = .int .u64 x0_1 ∧ Aside0 (endonymref2_Of.l0 kq x0_1 x3_1 = some r) ∧ Aside0 (kq ≤ k) ∧ Aside0 (Kd.R (Kd.int .u32) 83 w' w.heap.size (fun _ => True) v3 x3_1) ∧ Aside0 (Below w.heap.size w w'))
 case atStart => exact ⟨(a0), (([] : List Int)), sqE, H', ⟨Nat.le_refl _⟩, ⟨by first | exact Kd.R_nil _ _ _ _ _ | exact Kd.N_nil _ _ _ _ _ | exact Kd.V_nil _ _ _ _ _ | exact Kd.Q_nil _ _ _ _ _ | exact Kd.S_nil _ _ _ _ _⟩, ⟨sqB⟩⟩
 case round =>
  clear H'
  obtain ⟨x0_1, x3_1, rfl, HA, HK1, HO_3, HB⟩ := hrel
  cases gk with
  | zero => exact absurd HA.out (by simp [endonymref2_Of.l0])
  | succ k1 =>
   have H := HA.out
   clear HA
   simp only [endonymref2_Of.l0] at H
   by_cases c2 : x0_1 > 0
   case neg =>
    rw [if_neg c2] at H
    have c2b0 := decide_eq_false c2
    clear c2
    obtain rfl := Option.some.inj H
    go_wp2
    go_ret
    exact ⟨_, sqE', sqR HO_3.out, sqB⟩
   rw [if_pos c2] at H
   have c2b0 := decide_eq_true c2
   clear c2
   by_cases c3 : x3_1.length < 35184372088832
   case neg => rw [if_neg c3] at H; exact absurd H (by simp)
   rw [if_pos c3] at H
   have LMc3 := Aside0.mk c3
   clear c3
   obtain ⟨y498, hy498⟩ : ∃ y_ : List Int, y_ = (x3_1 ++ [(Go.bits .and .u64 x0_1 65535) % 4294967296]) := ⟨_, rfl⟩
   replace H : (endonymref2_Of.l0 k1 (x0_1 / 65536) y498) = some r := by first | (rw [hy498]; with_reducible exact H) | (have H2_ := (Option.bind_some _ _).symm.trans H; rw [hy498]; with_reducible exact H2_) | (have H2_ := (Option.bind_some _ _).symm.trans H; with_reducible exact H2_) | with_reducible exact H | (rw [hy498]; exact H) | exact H
   have Ny498 := Aside0.mk hy498
   clear hy498
   have H' := Aside0.mk H
   clear H
   go_wp2_with (first | ((with_reducible refine gate_builtin (b := .append) (xs := #[.tmp 6, .tmp 10]) rfl ?_); at_builtin; refine Kd.R_append (Kd.int .u32) (w0 := w) w.heap.size rfl (.tmp 6) (.tmp 10) 71 83 (.int .u32 0) 4 rfl Tryz.underlying71 info83 rfl (by decide) (by omega) u3 x3_1 ((Go.bits .and .u64 x0_1 65535) % 4294967296) [.int .u32 ((Go.bits .and .u64 x0_1 65535) % 4294967296)] (fun _ => True) (fun _ => False) rfl rfl ?aP (fun _ hk => hk.elim) ?aF ?aO ?aB ?aS ?aL ?_; (case aP => exact rfl); (case aB => exact sqB); (case aF => exact (fun _ _ => trivial)); (case aO => exact (sqR HO_3.out)); (case aS => exact (below_size sqB)); (case aL => have := LMc3.out; omega); intro v499 w4 ho hb hg hat; rw [← Ny498.out] at ho; have n0_ := Aside0.mk (hb); have n1_ := Aside0.mk (ho); clear HB; clear HO_3; have HB := n0_; have HO500 := n1_; clear n0_ n1_; clear ho hb hg hat))
   go_roundg k1
   case measure => have := HK1.out; omega
   case rel => exact ⟨(x0_1 / 65536), (y498), sqE, H', ⟨by have := HK1.out; omega⟩, ⟨sqR HO500.out⟩, ⟨sqB⟩⟩
def endonymref2_Left.f (k : Nat) (l0 : List Int) (a1 : Int) : Option (List Int) := if (l0.length : Int) = 0 then (some ([] : List Int)) else (if 0 ≤ (wrap64 (Int.tdiv a1 16)) then (if (wrap64 (Int.tdiv a1 16) : Int).toNat ≤ 70368744177664 then ((some (List.replicate (wrap64 (Int.tdiv a1 16) : Int).toNat 0 : List Int)).bind fun y501 => (if 0 ≤ (IntKind.u64.wrap (Int.tmod a1 16)) then ((endonymref2_Times.f k l0 (shl .u32 1 (IntKind.u64.wrap (Int.tmod a1 16))) 0).bind fun t504 => (if y501.length + t504.length < 35184372088832 then (some (y501 ++ t504)) else (none))) else (none))) else (none)) else (none))
theorem endonymref2_Left.mono : ∀ a0 a1 k, LeO (endonymref2_Left.f k a0 a1) (endonymref2_Left.f (k + 1) a0 a1) := by
 intro a0 a1 k
 unfold endonymref2_Left.f
 repeat' first | (with_reducible first | apply endonymref2_Times.mono | apply LeO.refl | apply LeO.none | refine LeO.ite ?_ ?_ | refine LeO.bind ?_ (fun _ => ?_)) | apply LeO.none | refine LeO.ite ?_ ?_ | refine LeO.bind ?_ (fun _ => ?_)
theorem endonymref2_Left.calls (k : Nat) (A0 : Option Addr) (c0 : Nat) (l0 : List Int) (a1 : Int) (r : List Int) (w : World) (hr0 : Kd.C (Kd.int .u32) w A0 l0.length l0) (hc0 : l0.length ≤ c0) (h : endonymref2_Left.f k l0 a1 = some r) :
  Calls Tryz.prog 74 #[.slice A0 l0.length c0, .int .i64 a1] w fun e w' => ∃ v0_ : Value, e = .returned (v0_) ∧ Kd.R (Kd.int .u32) 83 w' w.heap.size (fun _ => True) v0_ r ∧ Below w.heap.size w w' := by
 have HR0 := Aside0.mk hr0
 have HC0 := Aside0.mk hc0
 clear hr0 hc0
 have HB := Aside0.mk (Below.refl w.heap.size w)
 have H : (if (l0.length : Int) = 0 then (some ([] : List Int)) else (if 0 ≤ (wrap64 (Int.tdiv a1 16)) then (if (wrap64 (Int.tdiv a1 16) : Int).toNat ≤ 70368744177664 then ((some (List.replicate (wrap64 (Int.tdiv a1 16) : Int).toNat 0 : List Int)).bind fun y501 => (if 0 ≤ (IntKind.u64.wrap (Int.tmod a1 16)) then ((endonymref2_Times.f k l0 (shl .u32 1 (IntKind.u64.wrap (Int.tmod a1 16))) 0).bind fun t504 => (if y501.length + t504.length < 35184372088832 then (some (y501 ++ t504)) else (none))) else (none))) else (none)) else (none))) = some r := h
 clear h
 by_cases c3 : (l0.length : Int) = 0
 ·rw [if_pos c3] at H
  have c3b0 := beq_iff_eq.mpr c3
  have c3b1 := bne_eq_false_iff_eq.mpr c3
  clear c3
  obtain rfl := Option.some.inj H
  go_enter Tryz.func74, Tryz.ntmps74
  go_wp2
  go_ret
  exact ⟨_, sqE', by first | exact Kd.R_nil _ _ _ _ _ | exact Kd.N_nil _ _ _ _ _ | exact Kd.V_nil _ _ _ _ _ | exact Kd.Q_nil _ _ _ _ _ | exact Kd.S_nil _ _ _ _ _, sqB⟩
 rw [if_neg c3] at H
 have c3b0 := beq_eq_false_iff_ne.mpr c3
 have c3b1 := bne_iff_ne.mpr c3
 have c3b2 : ¬ (l0 = []) := fun h_ => c3 (by rw [h_]; rfl)
 obtain ⟨ji4, hji4⟩ : ∃ j_ : Int, (wrap64 (Int.tdiv a1 16)) = j_ := ⟨_, rfl⟩
 replace H : (if 0 ≤ (ji4) then (if (ji4 : Int).toNat ≤ 70368744177664 then ((some (List.replicate (ji4 : Int).toNat 0 : List Int)).bind fun y501 => (if 0 ≤ (IntKind.u64.wrap (Int.tmod a1 16)) then ((endonymref2_Times.f k l0 (shl .u32 1 (IntKind.u64.wrap (Int.tmod a1 16))) 0).bind fun t504 => (if y501.length + t504.length < 35184372088832 then (some (y501 ++ t504)) else (none))) else (none))) else (none)) else (none)) = some r := by first | (rw [hji4] at H; exact H) | (simp only [hji4] at H ⊢; exact H)
 have hji4w : (IntKind.i64.wrap (Int.tdiv a1 16)) = ji4 := (i64_w _).trans hji4
 by_cases c5 : 0 ≤ (ji4)
 case neg => rw [if_neg c5] at H; exact absurd H (by simp)
 rw [if_pos c5] at H
 have c5b0 := eq_true c5
 have c5b1 := decide_eq_true c5
 clear c5
 by_cases c6 : (ji4 : Int).toNat ≤ 70368744177664
 case neg => rw [if_neg c6] at H; exact absurd H (by simp)
 rw [if_pos c6] at H
 have c6b0 := eq_true c6
 have c6b1 := decide_eq_true c6
 clear c6
 obtain ⟨y501, hy501⟩ : ∃ y_ : List Int, y_ = (List.replicate (ji4 : Int).toNat 0) := ⟨_, rfl⟩
 replace H : (if 0 ≤ (IntKind.u64.wrap (Int.tmod a1 16)) then ((endonymref2_Times.f k l0 (shl .u32 1 (IntKind.u64.wrap (Int.tmod a1 16))) 0).bind fun t504 => (if y501.length + t504.length < 35184372088832 then (some (y501 ++ t504)) else (none))) else (none)) = some r := by first | (rw [hy501]; with_reducible exact H) | (have H2_ := (Option.bind_some _ _).symm.trans H; rw [hy501]; with_reducible exact H2_) | (have H2_ := (Option.bind_some _ _).symm.trans H; with_reducible exact H2_) | with_reducible exact H | (rw [hy501]; exact H) | exact H
 have Ny501 := Aside0.mk hy501
 clear hy501
 obtain ⟨ji7, hji7⟩ : ∃ j_ : Int, (IntKind.u64.wrap (Int.tmod a1 16)) = j_ := ⟨_, rfl⟩
 replace H : (if 0 ≤ (ji7) then ((endonymref2_Times.f k l0 (shl .u32 1 (ji7)) 0).bind fun t504 => (if y501.length + t504.length < 35184372088832 then (some (y501 ++ t504)) else (none))) else (none)) = some r := by first | (rw [hji7] at H; exact H) | (simp only [hji7] at H ⊢; exact H)
 by_cases c8 : 0 ≤ (ji7)
 case neg => rw [if_neg c8] at H; exact absurd H (by simp)
 rw [if_pos c8] at H
 have c8b0 := eq_true c8
 have c8b1 := decide_eq_true c8
 clear c8
 obtain ⟨ji9, hji9⟩ : ∃ j_ : Int, (shl .u32 1 (ji7)) = j_ := ⟨_, rfl⟩
 replace H : ((endonymref2_Times.f k l0 (ji9) 0).bind fun t504 => (if y501.length + t504.length < 35184372088832 then (some (y501 ++ t504)) else (none))) = some r := by first | (rw [hji9] at H; exact H) | (simp only [hji9] at H ⊢; exact H)
 have hji9_ : (IntKind.u32.wrap (1 * 2 ^ min (ji7).toNat 32)) = ji9 := hji9
 have hji9z : (ji7) ≤ 32 → (IntKind.u32.wrap (1 * 2 ^ (ji7).toNat)) = ji9 := shl_small hji9
 have hji9u : (IntKind.u32.wrap (2 ^ min (ji7).toNat 32)) = ji9 := by have h_ := hji9_; rw [Int.one_mul] at h_; exact h_
 have hji9v : (ji7) ≤ 32 → (IntKind.u32.wrap (2 ^ (ji7).toNat)) = ji9 := fun hle_ => by have h_ := hji9z hle_; rw [Int.one_mul] at h_; exact h_
 obtain ⟨t504, A10, H⟩ := sqO H
 try dsimp only at H
 by_cases c11 : y501.length + t504.length < 35184372088832
 case neg => rw [if_neg c11] at H; exact absurd H (by simp)
 rw [if_pos c11] at H
 have LMc11 := Aside0.mk c11
 clear c11
 obtain ⟨y507, hy507⟩ : ∃ y_ : List Int, y_ = (y501 ++ t504) := ⟨_, rfl⟩
 replace H : (some y507) = some r := by first | (rw [hy507]; with_reducible exact H) | (have H2_ := (Option.bind_some _ _).symm.trans H; rw [hy507]; with_reducible exact H2_) | (have H2_ := (Option.bind_some _ _).symm.trans H; with_reducible exact H2_) | with_reducible exact H | (rw [hy507]; exact H) | exact H
 have Ny507 := Aside0.mk hy507
 clear hy507
 obtain rfl := Option.some.inj H
 go_enter Tryz.func74, Tryz.ntmps74
 go_wp2_with (first | ((with_reducible refine gate_dst (N := 11) rfl ?_); refine Kd.R_make (Kd.int .u32) _ 83 rfl (N := 11) rfl 71 _ _ rfl ji4 rfl rfl Tryz.underlying71 (.int .u32 0) 4 info83 rfl (by decide) (by omega) 0 (ok := fun _ => True) (okp := fun _ => True) rfl (fun _ hk => hk) trivial sqD (Nat.le_trans (Nat.mul_le_mul_right _ (sqD : ji4.toNat ≤ 70368744177664)) (by omega)) (Below.refl _ _) (Nat.le_refl _) ?_; intro v502 w12 ho13 hb hg_ hnew_; clear hg_ hnew_; (first | rw [← Ny501.out] at ho13 | (simp only [Int.reduceToNat] at ho13; rw [← Ny501.out] at ho13)); have n0_ := Aside0.mk (Kd.R_lower ho13 (below_size sqB)); have n1_ := Aside0.mk (below_step sqB hb); clear HB; have HO503 := n0_; have HB := n1_; clear n0_ n1_; clear hb ho13) | ((with_reducible refine gate_callee (f := 61) rfl ?_); refine goesL_ (some 18) rfl rfl Tryz.func61 (by kernel_rfl) rfl #[.slice A0 l0.length c0, .int .u32 ji9, .int .u32 0] rfl (by (try simp only [List.map_toArray, List.map_cons, List.map_nil]); first | done | (simp only [hji9]; rfl) | rfl | (simp only [List.length_drop, List.length_take]; rfl)) ?_; (with_reducible refine (endonymref2_Times.calls k _ _ l0 ji9 0 t504 _ ?side1 ?side2 A10.out).mono ?_); (case side1 => repeat (first | exact (Kd.C_below HR0.out HB.out) | (with_reducible refine Kd.C_alloc ?_ _) | (with_reducible refine Kd.C_drewN ?_ _) | (with_reducible refine Kd.C_drew ?_))); (case side2 => exact HC0.out); rintro e w14 ⟨v505, rfl, ho0, hb⟩; refine ⟨_, rfl, ?_⟩; have n0_ := Aside0.mk (Kd.R_elder' (sqR HO503.out) (Kd.R_base ho0) hb); have n1_ := Aside0.mk (Kd.R_lower (Kd.R_new' ho0 (Kd.R_lt (sqR HO503.out))) (below_size sqB)); have n2_ := Aside0.mk (below_step sqB hb); clear HO503; clear HB; have HO503 := n0_; have HO506 := n1_; have HB := n2_; clear n0_ n1_ n2_; (try clear hb); (try clear hb2); (try clear hk); (try clear hi); (try clear ho0); obtain ⟨Ao16, co16, eo16⟩ := Kd.R_slice HO506.out; subst eo16) | ((with_reducible refine gate_builtin (b := .append) (xs := #[.tmp 12, .tmp 18]) rfl ?_); at_builtin; refine Kd.R_append_rows (Kd.int .u32) (w0 := w) w.heap.size rfl (.tmp 12) (.tmp 18) 71 83 (.int .u32 0) 4 rfl Tryz.underlying71 info83 rfl (by decide) (by omega) v502 y501 t504 _ _ _ (fun k_ => some k_ ≠ (.slice Ao16 t504.length co16 : Value).ownBlock) (fun _ => False) rfl rfl ?aO ?aR (fun _ _ h => h) (fun _ h => h.elim) ?aF ?aB ?aS ?aL ?_; (case aR => repeat (first | exact (Kd.R_reads' HO506.out).2.2 | (with_reducible refine Kd.C_alloc ?_ _) | (with_reducible refine Kd.C_drewN ?_ _) | (with_reducible refine Kd.C_drew ?_))); (case aB => exact sqB); (case aF => exact (fun k_ hk => Kd.fresh' (Kd.R_lt (sqR HO506.out)) k_ hk)); (case aO => exact (by (with_reducible repeat (first | apply Kd.R_alloc | apply Kd.R_drewN | apply Kd.R_drew)); exact Kd.R_mono HO503.out (fun _ hk => hk.2))); (case aS => exact (below_size sqB)); (case aL => have := LMc11.out; omega); intro v508 w15 ho hb hg hat; rw [← Ny507.out] at ho; have n0_ := Aside0.mk (Kd.R_after (ok := (fun _ => True)) (sqR HO506.out) hg hat); have n1_ := Aside0.mk (hb); have n2_ := Aside0.mk (ho); clear HO506; clear HB; clear HO503; have HO506 := n0_; have HB := n1_; have HO509 := n2_; clear n0_ n1_ n2_; clear ho hb hg hat))
 go_ret
 exact ⟨_, by first | rfl | (simp [errW_none, errW_some] <;> rfl) | (simp only [← hji4, ← hji7, ← hji9]; first | rfl | (simp [errW_none, errW_some] <;> rfl)) | (simp [*, errW_none, errW_some] <;> rfl), by (with_reducible repeat (first | apply Kd.R_alloc | apply Kd.R_drewN | apply Kd.R_drew)); exact Kd.R_mono HO509.out (fun _ hk => trivial), sqB⟩
end Go.Proofs.YtfmjdoofopamkaaGreatDoor.W
