-- written by wip/pp.py of this session (the kit's print with patches); checked by Lean alone
import Derived.Test.YtfmjdoofopamkaaDoorWx0
import Derived.Test.YtfmjdoofopamkaaDoorWx1
import Derived.Test.YtfmjdoofopamkaaDoorWx2
import Derived.Test.YtfmjdoofopamkaaDoorWx3
import Derived.Test.YtfmjdoofopamkaaDoorWx4
import Derived.Test.YtfmjdoofopamkaaDoorWx5
namespace Go.Proofs.YtfmjdoofopamkaaDoor.W
open Go.RowKit Go.Proofs.YtfmjdoofopamkaaDoorW.PrintWords Go.Proofs.YtfmjdoofopamkaaDoorW.PrintLast Go.Proofs.YtfmjdoofopamkaaDoorW.PrintMore
attribute [local go_sem] max2_int min2_int max_two min_two max_three min_three max_four min_four   -- for this text's walks alone
set_option linter.unusedVariables false
set_option linter.unusedSimpArgs false

/-! ### weigh_read: function 44 -/
def weigh_read.l0 : Nat → ByteArray → Int → Int → Bool → Int → Int → Option (Int × Int)
 | 0, _, _, _, _, _, _ => none
 | k + 1, x0, x2, x3, x4, x7, x8 => if x8 < x7 then (if 0 ≤ x8 then (if x8 < (x0.size : Int) then (if (bt x0 x8) = 101 then (some (x2, x3)) else (if (bt x0 x8) = 46 then (weigh_read.l0 k x0 x2 x3 true x7 (wrap64 (x8 + 1))) else ((weigh_digit.f (bt x0 x8)).bind fun t305 => (if t305 = true then (if x4 = true then (weigh_read.l0 k x0 (IntKind.u64.wrap ((IntKind.u64.wrap (10 * x2)) + (((bt x0 x8) - 48) % 256))) (wrap64 (x3 + 1)) x4 x7 (wrap64 (x8 + 1))) else (weigh_read.l0 k x0 (IntKind.u64.wrap ((IntKind.u64.wrap (10 * x2)) + (((bt x0 x8) - 48) % 256))) x3 x4 x7 (wrap64 (x8 + 1)))) else (weigh_read.l0 k x0 x2 x3 x4 x7 (wrap64 (x8 + 1))))))) else (none)) else (none)) else (some (x2, x3))
def weigh_read.f (k : Nat) (a0 : ByteArray) : Option (Int × Int) := weigh_read.l0 k a0 0 0 false (a0.size : Int) 0
theorem weigh_read.mono_l : ∀ k, (∀ y0 y1 y2 y3 y4 y5, LeO (weigh_read.l0 k y0 y1 y2 y3 y4 y5) (weigh_read.l0 (k + 1) y0 y1 y2 y3 y4 y5))
 | 0 => fun _ _ _ _ _ _ r h => by simp [weigh_read.l0] at h
 | k + 1 => by
  have ih0 := weigh_read.mono_l k
  intro y0 y1 y2 y3 y4 y5
  unfold weigh_read.l0
  repeat' first | (with_reducible first | apply ih0 | apply LeO.refl | apply LeO.none | refine LeO.ite ?_ ?_ | refine LeO.bind ?_ (fun _ => ?_)) | apply ih0 | apply LeO.none | refine LeO.ite ?_ ?_ | refine LeO.bind ?_ (fun _ => ?_)
theorem weigh_read.mono : ∀ a0 k, LeO (weigh_read.f k a0) (weigh_read.f (k + 1) a0) := by
 intro a0 k
 have ih0 := weigh_read.mono_l k
 unfold weigh_read.f
 repeat' first | (with_reducible first | apply ih0 | apply LeO.refl | apply LeO.none | refine LeO.ite ?_ ?_ | refine LeO.bind ?_ (fun _ => ?_)) | apply ih0 | apply LeO.none | refine LeO.ite ?_ ?_ | refine LeO.bind ?_ (fun _ => ?_)
set_option maxHeartbeats 8000000 in
set_option maxRecDepth 100000 in
theorem weigh_read.calls (k : Nat) (a0 : ByteArray) (r1 : Int) (r2 : Int) (w : World) (h : weigh_read.f k a0 = some (r1, r2)) :
  Calls Tryd.prog 44 #[.string a0] w fun e w' => e = .returned (.tuple #[.int .u64 r1, .int .i64 r2]) ∧ Drawn0 w w' := by
 have H : (weigh_read.l0 k a0 0 0 false (a0.size : Int) 0) = some (r1, r2) := h
 clear h
 have H' := Aside0.mk H
 clear H
 go_enter Tryd.func44, Tryd.ntmps44
 go_wp2
 go_loopg [2, 3, 4, 8] k (fun kq v2 v3 v4 v8 w' => ∃ (x2_1 : Int) (x3_1 : Int) (x4_1 : Bool) (x8_1 : Int), v2 = .int .u64 x2_1 ∧ v3 = .int .i64 x3_1 ∧ v4 = .bool x4_1 ∧ v8 = .int .i64 x8_1 ∧ Aside0 (weigh_read.l0 kq a0 x2_1 x3_1 x4_1 (a0.size : Int) x8_1 = some (r1, r2)) ∧ Aside0 (kq ≤ k) ∧ Drawn0 w w')
 case atStart => exact ⟨(0), (0), (false), (0), sqE, sqE, sqE, sqE, H', ⟨Nat.le_refl _⟩, sqW⟩
 case round =>
  clear H'
  obtain ⟨x2_1, x3_1, x4_1, x8_1, rfl, rfl, rfl, rfl, HA, HK1, ⟨m1, rfl⟩⟩ := hrel
  cases gk with
  | zero => exact absurd HA.out (by simp [weigh_read.l0])
  | succ k1 =>
   have H := HA.out
   clear HA
   simp only [weigh_read.l0] at H
   by_cases c2 : x8_1 < (a0.size : Int)
   ·rw [if_pos c2] at H
    have c2b0 := decide_eq_true c2
    clear c2
    by_cases c3 : 0 ≤ x8_1
    case neg => rw [if_neg c3] at H; exact absurd H (by simp)
    rw [if_pos c3] at H
    have c3b0 := decide_eq_true c3
    clear c3
    by_cases c4 : x8_1 < (a0.size : Int)
    case neg => rw [if_neg c4] at H; exact absurd H (by simp)
    rw [if_pos c4] at H
    have c4b0 := decide_eq_true c4
    clear c4
    by_cases c6 : (bt a0 x8_1) = 101
    ·rw [if_pos c6] at H
     have c6b0 := beq_iff_eq.mpr c6
     have c6b1 := bne_eq_false_iff_eq.mpr c6
     clear c6
     simp only [Option.some.injEq, Prod.mk.injEq] at H
     obtain ⟨rfl, rfl⟩ := H
     have p5 : 0 ≤ (x8_1 : Int) := sqD
     have q5 : x8_1 < (a0.size : Int) := sqD
     have hx5 := bt_at a0 x8_1
     replace p5 := eq_true p5
     replace q5 := eq_true q5
     go_wp2
     go_ret2
     exact ⟨sqE, sqW⟩
    rw [if_neg c6] at H
    have c6b0 := beq_eq_false_iff_ne.mpr c6
    have c6b1 := bne_iff_ne.mpr c6
    by_cases c8 : (bt a0 x8_1) = 46
    ·rw [if_pos c8] at H
     have c8b0 := beq_iff_eq.mpr c8
     have c8b1 := bne_eq_false_iff_eq.mpr c8
     clear c8
     have H' := Aside0.mk H
     clear H
     have p5 : 0 ≤ (x8_1 : Int) := sqD
     have q5 : x8_1 < (a0.size : Int) := sqD
     have hx5 := bt_at a0 x8_1
     replace p5 := eq_true p5
     replace q5 := eq_true q5
     have p7 : 0 ≤ (x8_1 : Int) := sqD
     have q7 : x8_1 < (a0.size : Int) := sqD
     have hx7 := bt_at a0 x8_1
     replace p7 := eq_true p7
     replace q7 := eq_true q7
     go_wp2
     go_roundg k1
     case measure => have := HK1.out; omega
     case rel => exact ⟨(x2_1), (x3_1), (true), (wrap64 (x8_1 + 1)), sqE, sqE, sqE, sqE, H', ⟨by have := HK1.out; omega⟩, sqW⟩
    rw [if_neg c8] at H
    have c8b0 := beq_eq_false_iff_ne.mpr c8
    have c8b1 := bne_iff_ne.mpr c8
    replace H := Option.bind_eq_some_iff.mp H
    obtain ⟨t305, A100, H⟩ := H
    try dsimp only at H
    have A10 := Aside0.mk A100
    clear A100
    by_cases c11 : t305 = true
    ·subst c11
     have H1 : (if x4_1 = true then (weigh_read.l0 k1 a0 (IntKind.u64.wrap ((IntKind.u64.wrap (10 * x2_1)) + (((bt a0 x8_1) - 48) % 256))) (wrap64 (x3_1 + 1)) x4_1 (a0.size : Int) (wrap64 (x8_1 + 1))) else (weigh_read.l0 k1 a0 (IntKind.u64.wrap ((IntKind.u64.wrap (10 * x2_1)) + (((bt a0 x8_1) - 48) % 256))) x3_1 x4_1 (a0.size : Int) (wrap64 (x8_1 + 1)))) = some (r1, r2) := by rw [if_pos rfl] at H; exact H
     clear H
     have H := H1
     clear H1
     by_cases c13 : x4_1 = true
     ·subst c13
      have H1 : (weigh_read.l0 k1 a0 (IntKind.u64.wrap ((IntKind.u64.wrap (10 * x2_1)) + (((bt a0 x8_1) - 48) % 256))) (wrap64 (x3_1 + 1)) true (a0.size : Int) (wrap64 (x8_1 + 1))) = some (r1, r2) := by rw [if_pos rfl] at H; exact H
      clear H
      have H := H1
      clear H1
      have H' := Aside0.mk H
      clear H
      have p5 : 0 ≤ (x8_1 : Int) := sqD
      have q5 : x8_1 < (a0.size : Int) := sqD
      have hx5 := bt_at a0 x8_1
      replace p5 := eq_true p5
      replace q5 := eq_true q5
      have p7 : 0 ≤ (x8_1 : Int) := sqD
      have q7 : x8_1 < (a0.size : Int) := sqD
      have hx7 := bt_at a0 x8_1
      replace p7 := eq_true p7
      replace q7 := eq_true q7
      have p9 : 0 ≤ (x8_1 : Int) := sqD
      have q9 : x8_1 < (a0.size : Int) := sqD
      have hx9 := bt_at a0 x8_1
      replace p9 := eq_true p9
      replace q9 := eq_true q9
      go_wp2_with (first | ((with_reducible refine gate_callee (f := 67) rfl ?_); refine goesL_ (some 27) rfl rfl Tryd.func67 (by kernel_rfl) rfl #[.int .u8 (bt a0 x8_1)] rfl sqA ?_; (with_reducible refine (weigh_digit.calls (bt a0 x8_1) true _ A10.out).mono ?_); rintro e w' ⟨rfl, ⟨nd, rfl⟩⟩; refine ⟨_, rfl, ?_⟩; have p12 : 0 ≤ (x8_1 : Int) := sqD; have q12 : x8_1 < (a0.size : Int) := sqD; have hx12 := bt_at a0 x8_1; replace p12 := eq_true p12; replace q12 := eq_true q12))
      go_roundg k1
      case measure => have := HK1.out; omega
      case rel => exact ⟨(IntKind.u64.wrap ((IntKind.u64.wrap (10 * x2_1)) + (((bt a0 x8_1) - 48) % 256))), (wrap64 (x3_1 + 1)), (true), (wrap64 (x8_1 + 1)), sqE, sqE, sqE, sqE, H', ⟨by have := HK1.out; omega⟩, sqW⟩
     replace c13 := Bool.eq_false_iff.mpr c13
     subst c13
     have H1 : (weigh_read.l0 k1 a0 (IntKind.u64.wrap ((IntKind.u64.wrap (10 * x2_1)) + (((bt a0 x8_1) - 48) % 256))) x3_1 false (a0.size : Int) (wrap64 (x8_1 + 1))) = some (r1, r2) := by rw [if_neg (show ¬ (false = true) by decide)] at H; exact H
     clear H
     have H := H1
     clear H1
     have H' := Aside0.mk H
     clear H
     have p5 : 0 ≤ (x8_1 : Int) := sqD
     have q5 : x8_1 < (a0.size : Int) := sqD
     have hx5 := bt_at a0 x8_1
     replace p5 := eq_true p5
     replace q5 := eq_true q5
     have p7 : 0 ≤ (x8_1 : Int) := sqD
     have q7 : x8_1 < (a0.size : Int) := sqD
     have hx7 := bt_at a0 x8_1
     replace p7 := eq_true p7
     replace q7 := eq_true q7
     have p9 : 0 ≤ (x8_1 : Int) := sqD
     have q9 : x8_1 < (a0.size : Int) := sqD
     have hx9 := bt_at a0 x8_1
     replace p9 := eq_true p9
     replace q9 := eq_true q9
     go_wp2_with (first | ((with_reducible refine gate_callee (f := 67) rfl ?_); refine goesL_ (some 27) rfl rfl Tryd.func67 (by kernel_rfl) rfl #[.int .u8 (bt a0 x8_1)] rfl sqA ?_; (with_reducible refine (weigh_digit.calls (bt a0 x8_1) true _ A10.out).mono ?_); rintro e w' ⟨rfl, ⟨nd, rfl⟩⟩; refine ⟨_, rfl, ?_⟩; have p12 : 0 ≤ (x8_1 : Int) := sqD; have q12 : x8_1 < (a0.size : Int) := sqD; have hx12 := bt_at a0 x8_1; replace p12 := eq_true p12; replace q12 := eq_true q12))
     go_roundg k1
     case measure => have := HK1.out; omega
     case rel => exact ⟨(IntKind.u64.wrap ((IntKind.u64.wrap (10 * x2_1)) + (((bt a0 x8_1) - 48) % 256))), (x3_1), (false), (wrap64 (x8_1 + 1)), sqE, sqE, sqE, sqE, H', ⟨by have := HK1.out; omega⟩, sqW⟩
    replace c11 := Bool.eq_false_iff.mpr c11
    subst c11
    have H1 : (weigh_read.l0 k1 a0 x2_1 x3_1 x4_1 (a0.size : Int) (wrap64 (x8_1 + 1))) = some (r1, r2) := by rw [if_neg (show ¬ (false = true) by decide)] at H; exact H
    clear H
    have H := H1
    clear H1
    have H' := Aside0.mk H
    clear H
    have p5 : 0 ≤ (x8_1 : Int) := sqD
    have q5 : x8_1 < (a0.size : Int) := sqD
    have hx5 := bt_at a0 x8_1
    replace p5 := eq_true p5
    replace q5 := eq_true q5
    have p7 : 0 ≤ (x8_1 : Int) := sqD
    have q7 : x8_1 < (a0.size : Int) := sqD
    have hx7 := bt_at a0 x8_1
    replace p7 := eq_true p7
    replace q7 := eq_true q7
    have p9 : 0 ≤ (x8_1 : Int) := sqD
    have q9 : x8_1 < (a0.size : Int) := sqD
    have hx9 := bt_at a0 x8_1
    replace p9 := eq_true p9
    replace q9 := eq_true q9
    go_wp2_with (first | ((with_reducible refine gate_callee (f := 67) rfl ?_); refine goesL_ (some 27) rfl rfl Tryd.func67 (by kernel_rfl) rfl #[.int .u8 (bt a0 x8_1)] rfl sqA ?_; (with_reducible refine (weigh_digit.calls (bt a0 x8_1) false _ A10.out).mono ?_); rintro e w' ⟨rfl, ⟨nd, rfl⟩⟩; refine ⟨_, rfl, ?_⟩))
    go_roundg k1
    case measure => have := HK1.out; omega
    case rel => exact ⟨(x2_1), (x3_1), (x4_1), (wrap64 (x8_1 + 1)), sqE, sqE, sqE, sqE, H', ⟨by have := HK1.out; omega⟩, sqW⟩
   rw [if_neg c2] at H
   have c2b0 := decide_eq_false c2
   clear c2
   simp only [Option.some.injEq, Prod.mk.injEq] at H
   obtain ⟨rfl, rfl⟩ := H
   go_wp2
   go_ret2
   exact ⟨sqE, sqW⟩

/-! ### weigh_rounded: function 45 -/
def weigh_rounded.j0 : Nat → List Int → List Int → Int → Int → Option (Nat)
 | 0, _, _, _, _ => none
 | k + 1, x0, x1, x2, x7 => (weigh_nat_up.f k x0 (wrap64 (x2 - (mx (wrap64 ((wrap64 (x7 + x2)) - 52)) (-1074))))).bind fun t315 => ((weigh_nat_up.f k x1 (wrap64 ((mx (wrap64 ((wrap64 (x7 + x2)) - 52)) (-1074)) - x2))).bind fun t318 => ((weigh_nat_over.f k t315 t318).bind fun bt321 => ((weigh_half.f k bt321.2 t318).bind fun t325 => (if t325 > 0 then ((math_Ldexp.f (floatOfInt .f64 (IntKind.u64.wrap (bt321.1 + 1))) (mx (wrap64 ((wrap64 (x7 + x2)) - 52)) (-1074))).bind fun t326 => (some t326)) else (if t325 = 0 then (if (Int.tmod bt321.1 2) = 1 then ((math_Ldexp.f (floatOfInt .f64 (IntKind.u64.wrap (bt321.1 + 1))) (mx (wrap64 ((wrap64 (x7 + x2)) - 52)) (-1074))).bind fun t327 => (some t327)) else ((math_Ldexp.f (floatOfInt .f64 bt321.1) (mx (wrap64 ((wrap64 (x7 + x2)) - 52)) (-1074))).bind fun t328 => (some t328))) else ((math_Ldexp.f (floatOfInt .f64 bt321.1) (mx (wrap64 ((wrap64 (x7 + x2)) - 52)) (-1074))).bind fun t329 => (some t329)))))))
def weigh_rounded.f (k : Nat) (l0 : List Int) (l1 : List Int) (a2 : Int) : Option (Nat) := (weigh_nat_length.f l0).bind fun t306 => ((weigh_nat_length.f l1).bind fun t307 => ((weigh_nat_up.f k l0 (wrap64 (-(wrap64 (t306 - t307))))).bind fun t308 => ((weigh_nat_up.f k l1 (wrap64 (t306 - t307))).bind fun t311 => ((weigh_nat_compare.f k t308 t311).bind fun t314 => (if t314 < 0 then (weigh_rounded.j0 k l0 l1 a2 (wrap64 ((wrap64 (t306 - t307)) - 1))) else (weigh_rounded.j0 k l0 l1 a2 (wrap64 (t306 - t307))))))))
theorem weigh_rounded.mono_l : ∀ k, (∀ y0 y1 y2 y3, LeO (weigh_rounded.j0 k y0 y1 y2 y3) (weigh_rounded.j0 (k + 1) y0 y1 y2 y3))
 | 0 => fun _ _ _ _ r h => by simp [weigh_rounded.j0] at h
 | k + 1 => by
  have ih0 := weigh_rounded.mono_l k
  intro y0 y1 y2 y3
  unfold weigh_rounded.j0
  repeat' first | (with_reducible first | apply ih0 | apply weigh_half.mono | apply weigh_nat_compare.mono | apply weigh_nat_over.mono | apply weigh_nat_up.mono | apply LeO.refl | apply LeO.none | refine LeO.ite ?_ ?_ | refine LeO.bind ?_ (fun _ => ?_)) | apply ih0 | apply weigh_half.mono | apply weigh_nat_compare.mono | apply weigh_nat_over.mono | apply weigh_nat_up.mono | apply LeO.none | refine LeO.ite ?_ ?_ | refine LeO.bind ?_ (fun _ => ?_)
theorem weigh_rounded.mono : ∀ a0 a1 a2 k, LeO (weigh_rounded.f k a0 a1 a2) (weigh_rounded.f (k + 1) a0 a1 a2) := by
 intro a0 a1 a2 k
 have ih0 := weigh_rounded.mono_l k
 unfold weigh_rounded.f
 repeat' first | (with_reducible first | apply ih0 | apply weigh_half.mono | apply weigh_nat_compare.mono | apply weigh_nat_over.mono | apply weigh_nat_up.mono | apply LeO.refl | apply LeO.none | refine LeO.ite ?_ ?_ | refine LeO.bind ?_ (fun _ => ?_)) | apply ih0 | apply weigh_half.mono | apply weigh_nat_compare.mono | apply weigh_nat_over.mono | apply weigh_nat_up.mono | apply LeO.none | refine LeO.ite ?_ ?_ | refine LeO.bind ?_ (fun _ => ?_)
set_option maxHeartbeats 8000000 in
set_option maxRecDepth 100000 in
theorem weigh_rounded.calls (k : Nat) (A0 : Option Addr) (c0 : Nat) (l0 : List Int) (A1 : Option Addr) (c1 : Nat) (l1 : List Int) (a2 : Int) (r : Nat) (w : World) (hr0 : Kd.C (Kd.int .u32) w A0 l0.length l0) (hc0 : l0.length ≤ c0) (hr1 : Kd.C (Kd.int .u32) w A1 l1.length l1) (hc1 : l1.length ≤ c1) (h : weigh_rounded.f k l0 l1 a2 = some r) :
  Calls Tryd.prog 45 #[.slice A0 l0.length c0, .slice A1 l1.length c1, .int .i64 a2] w fun e w' => e = .returned (.float .f64 r) ∧ Below w.heap.size w w' := by
 have HR0 := Aside0.mk hr0
 have HC0 := Aside0.mk hc0
 clear hr0 hc0
 have HR1 := Aside0.mk hr1
 have HC1 := Aside0.mk hc1
 clear hr1 hc1
 have HB := Aside0.mk (Below.refl w.heap.size w)
 have H : ((weigh_nat_length.f l0).bind fun t306 => ((weigh_nat_length.f l1).bind fun t307 => ((weigh_nat_up.f k l0 (wrap64 (-(wrap64 (t306 - t307))))).bind fun t308 => ((weigh_nat_up.f k l1 (wrap64 (t306 - t307))).bind fun t311 => ((weigh_nat_compare.f k t308 t311).bind fun t314 => (if t314 < 0 then (weigh_rounded.j0 k l0 l1 a2 (wrap64 ((wrap64 (t306 - t307)) - 1))) else (weigh_rounded.j0 k l0 l1 a2 (wrap64 (t306 - t307))))))))) = some r := h
 clear h
 replace H := Option.bind_eq_some_iff.mp H
 obtain ⟨t306, A40, H⟩ := H
 try dsimp only at H
 have A4 := Aside0.mk A40
 clear A40
 replace H := Option.bind_eq_some_iff.mp H
 obtain ⟨t307, A50, H⟩ := H
 try dsimp only at H
 have A5 := Aside0.mk A50
 clear A50
 replace H := Option.bind_eq_some_iff.mp H
 obtain ⟨t308, A60, H⟩ := H
 try dsimp only at H
 have A6 := Aside0.mk A60
 clear A60
 replace H := Option.bind_eq_some_iff.mp H
 obtain ⟨t311, A70, H⟩ := H
 try dsimp only at H
 have A7 := Aside0.mk A70
 clear A70
 replace H := Option.bind_eq_some_iff.mp H
 obtain ⟨t314, A80, H⟩ := H
 try dsimp only at H
 have A8 := Aside0.mk A80
 clear A80
 have HC9 := Aside0.mk H
 clear H
 go_enter Tryd.func45, Tryd.ntmps45
 go_upto_if 27 with (first | ((with_reducible refine gate_callee (f := 68) rfl ?_); refine goesL_ (some 14) rfl rfl Tryd.func68 (by kernel_rfl) rfl #[.slice A0 l0.length c0] rfl sqA ?_; (with_reducible refine (weigh_nat_length.calls _ _ l0 t306 _ ?side1 ?side2 A4.out).mono ?_); (case side1 => repeat (first | exact HR0.out | (with_reducible refine Kd.C_alloc ?_ _) | (with_reducible refine Kd.C_drewN ?_ _) | (with_reducible refine Kd.C_drew ?_))); (case side2 => exact HC0.out); rintro e w' ⟨rfl, ⟨nd, rfl⟩⟩; refine ⟨_, rfl, ?_⟩) | ((with_reducible refine gate_callee (f := 68) rfl ?_); refine goesL_ (some 16) rfl rfl Tryd.func68 (by kernel_rfl) rfl #[.slice A1 l1.length c1] rfl sqA ?_; (with_reducible refine (weigh_nat_length.calls _ _ l1 t307 _ ?side1 ?side2 A5.out).mono ?_); (case side1 => repeat (first | exact HR1.out | (with_reducible refine Kd.C_alloc ?_ _) | (with_reducible refine Kd.C_drewN ?_ _) | (with_reducible refine Kd.C_drew ?_))); (case side2 => exact HC1.out); rintro e w' ⟨rfl, ⟨nd, rfl⟩⟩; refine ⟨_, rfl, ?_⟩) | ((with_reducible refine gate_callee (f := 69) rfl ?_); refine goesL_ (some 21) rfl rfl Tryd.func69 (by kernel_rfl) rfl #[.slice A0 l0.length c0, .int .i64 (wrap64 (-(wrap64 (t306 - t307))))] rfl sqA ?_; (with_reducible refine (weigh_nat_up.calls k (fun k_ => k_ < w.heap.size) _ _ l0 (wrap64 (-(wrap64 (t306 - t307)))) t308 _ ?side1 A6.out).mono ?_); (case side1 => exact Kd.V_mk HC0.out (Kd.F_below (Kd.C_F (Kd.heap_int .u32) HR0.out) sqB)); rintro e w10 ⟨v309, rfl, ho0, hb⟩; refine ⟨_, rfl, ?_⟩; have n0_ := Aside0.mk (Kd.V_lower (Kd.V_mono (ok' := fun k_ => True) ho0 (fun k_ hk_ => trivial)) (below_size sqB)); have n1_ := Aside0.mk (below_step sqB hb); clear HB; have HO310 := n0_; have HB := n1_; clear n0_ n1_; (try clear hb); (try clear hb2); (try clear hk); (try clear hi); (try clear ho0)) | ((with_reducible refine gate_callee (f := 69) rfl ?_); refine goesL_ (some 24) rfl rfl Tryd.func69 (by kernel_rfl) rfl #[.slice A1 l1.length c1, .int .i64 (wrap64 (t306 - t307))] rfl sqA ?_; (with_reducible refine (weigh_nat_up.calls k (fun k_ => k_ < w.heap.size) _ _ l1 (wrap64 (t306 - t307)) t311 _ ?side1 A7.out).mono ?_); (case side1 => exact Kd.V_mk HC1.out (Kd.F_below (Kd.C_F (Kd.heap_int .u32) HR1.out) sqB)); rintro e w11 ⟨v312, rfl, ho0, hb⟩; refine ⟨_, rfl, ?_⟩; have n0_ := Aside0.mk (Kd.V_below (sqV HO310.out) hb); have n1_ := Aside0.mk (Kd.V_lower (Kd.V_mono (ok' := fun k_ => True) ho0 (fun k_ hk_ => trivial)) (below_size sqB)); have n2_ := Aside0.mk (below_step sqB hb); clear HO310; clear HB; have HO310 := n0_; have HO313 := n1_; have HB := n2_; clear n0_ n1_ n2_; (try clear hb); (try clear hb2); (try clear hk); (try clear hi); (try clear ho0); obtain ⟨Ao12, co12, eo12⟩ := Kd.V_slice HO310.out; subst eo12; obtain ⟨Ao13, co13, eo13⟩ := Kd.V_slice HO313.out; subst eo13) | ((with_reducible refine gate_callee (f := 70) rfl ?_); refine goesL_ (some 25) rfl rfl Tryd.func70 (by kernel_rfl) rfl #[.slice Ao12 t308.length co12, .slice Ao13 t311.length co13] rfl sqA ?_; (with_reducible refine (weigh_nat_compare.calls k _ _ t308 _ _ t311 t314 _ ?side1 ?side2 ?side3 ?side4 A8.out).mono ?_); (case side1 => repeat (first | exact (Kd.V_reads' HO310.out).2.2 | (with_reducible refine Kd.C_alloc ?_ _) | (with_reducible refine Kd.C_drewN ?_ _) | (with_reducible refine Kd.C_drew ?_))); (case side2 => exact (Kd.V_reads' HO310.out).2.1); (case side3 => repeat (first | exact (Kd.V_reads' HO313.out).2.2 | (with_reducible refine Kd.C_alloc ?_ _) | (with_reducible refine Kd.C_drewN ?_ _) | (with_reducible refine Kd.C_drew ?_))); (case side4 => exact (Kd.V_reads' HO313.out).2.1); rintro e w' ⟨rfl, ⟨nd, rfl⟩⟩; refine ⟨_, rfl, ?_⟩))
 (try simp only [Act.put, List.setIfInBounds_toArray, List.set_cons_zero, List.set_cons_succ])
 go_cut [7] (fun v7 wc => ∃ (kq : Nat) (x7_8 : Int), v7 = .int .i64 x7_8 ∧ Aside0 (weigh_rounded.j0 kq l0 l1 a2 x7_8 = some r) ∧ Aside0 (kq ≤ k) ∧ Aside0 (Below w.heap.size w wc))
 case first =>
  have H := HC9.out
  clear HC9
  by_cases c14 : t314 < 0
  ·rw [if_pos c14] at H
   have c14b0 := decide_eq_true c14
   clear c14
   (first | rw [c14b0] | (simp only [i64_w, i32_w]; rw [c14b0]) | skip)
   have H' := Aside0.mk H
   clear H
   go_wp2
   go_meet
   case rel => exact ⟨_, (wrap64 ((wrap64 (t306 - t307)) - 1)), sqE, H', ⟨by first | omega | exact Nat.le_refl _⟩, ⟨sqB⟩⟩
  rw [if_neg c14] at H
  have c14b0 := decide_eq_false c14
  clear c14
  (first | rw [c14b0] | (simp only [i64_w, i32_w]; rw [c14b0]) | skip)
  have H' := Aside0.mk H
  clear H
  go_wp2
  go_meet
  case rel => exact ⟨_, (wrap64 (t306 - t307)), sqE, H', ⟨by first | omega | exact Nat.le_refl _⟩, ⟨sqB⟩⟩
 case rest =>
  clear HC9
  try clear c1
  try clear p2
  try clear c4
  try clear c6
  try clear p6
  try clear c7
  try clear c14
  try clear c14b0
  obtain ⟨kq, x7_8, rfl, HA, HJ8, HB⟩ := hcut
  cases kq with
  | zero => exact absurd HA.out (by simp [weigh_rounded.j0])
  | succ kj8 =>
   have H := HA.out
   clear HA
   simp only [weigh_rounded.j0] at H
   obtain ⟨ji15, hji15⟩ : ∃ j_ : Int, (mx (wrap64 ((wrap64 (x7_8 + a2)) - 52)) (-1074)) = j_ := ⟨_, rfl⟩
   replace H : ((weigh_nat_up.f kj8 l0 (wrap64 (a2 - (ji15)))).bind fun t315 => ((weigh_nat_up.f kj8 l1 (wrap64 ((ji15) - a2))).bind fun t318 => ((weigh_nat_over.f kj8 t315 t318).bind fun bt321 => ((weigh_half.f kj8 bt321.2 t318).bind fun t325 => (if t325 > 0 then ((math_Ldexp.f (floatOfInt .f64 (IntKind.u64.wrap (bt321.1 + 1))) (ji15)).bind fun t326 => (some t326)) else (if t325 = 0 then (if (Int.tmod bt321.1 2) = 1 then ((math_Ldexp.f (floatOfInt .f64 (IntKind.u64.wrap (bt321.1 + 1))) (ji15)).bind fun t327 => (some t327)) else ((math_Ldexp.f (floatOfInt .f64 bt321.1) (ji15)).bind fun t328 => (some t328))) else ((math_Ldexp.f (floatOfInt .f64 bt321.1) (ji15)).bind fun t329 => (some t329)))))))) = some r := by first | (rw [hji15] at H; exact H) | (simp only [hji15] at H ⊢; exact H)
   have hji15_ : (if (wrap64 ((wrap64 (x7_8 + a2)) - 52)) < (-1074) then (-1074) else (wrap64 ((wrap64 (x7_8 + a2)) - 52))) = ji15 := hji15
   replace H := Option.bind_eq_some_iff.mp H
   obtain ⟨t315, A160, H⟩ := H
   try dsimp only at H
   have A16 := Aside0.mk A160
   clear A160
   replace H := Option.bind_eq_some_iff.mp H
   obtain ⟨t318, A170, H⟩ := H
   try dsimp only at H
   have A17 := Aside0.mk A170
   clear A170
   replace H := Option.bind_eq_some_iff.mp H
   obtain ⟨⟨t321, t322⟩, A180, H⟩ := H
   try dsimp only at H
   have A18 := Aside0.mk A180
   clear A180
   replace H := Option.bind_eq_some_iff.mp H
   obtain ⟨t325, A190, H⟩ := H
   try dsimp only at H
   have A19 := Aside0.mk A190
   clear A190
   by_cases c20 : t325 > 0
   ·rw [if_pos c20] at H
    have c20b0 := decide_eq_true c20
    clear c20
    replace H := Option.bind_eq_some_iff.mp H
    obtain ⟨t326, A210, H⟩ := H
    try dsimp only at H
    have A21 := Aside0.mk A210
    clear A210
    obtain rfl := Option.some.inj H
    go_wp2_with (first | ((with_reducible refine gate_callee (f := 69) rfl ?_); refine goesL_ (some 39) rfl rfl Tryd.func69 (by kernel_rfl) rfl #[.slice A0 l0.length c0, .int .i64 (wrap64 (a2 - (ji15)))] rfl (by (try simp only [List.map_toArray, List.map_cons, List.map_nil]); first | done | (simp only [hji15]; rfl) | rfl | (simp only [List.length_drop, List.length_take]; rfl)) ?_; (with_reducible refine (weigh_nat_up.calls kj8 (fun k_ => k_ < w.heap.size) _ _ l0 (wrap64 (a2 - (ji15))) t315 _ ?side1 A16.out).mono ?_); (case side1 => exact Kd.V_mk HC0.out (Kd.F_below (Kd.C_F (Kd.heap_int .u32) HR0.out) sqB)); rintro e w22 ⟨v316, rfl, ho0, hb⟩; refine ⟨_, rfl, ?_⟩; have n0_ := Aside0.mk (Kd.V_lower (Kd.V_mono (ok' := fun k_ => True) ho0 (fun k_ hk_ => trivial)) (below_size sqB)); have n1_ := Aside0.mk (below_step sqB hb); clear HB; have HO317 := n0_; have HB := n1_; clear n0_ n1_; (try clear hb); (try clear hb2); (try clear hk); (try clear hi); (try clear ho0)) | ((with_reducible refine gate_callee (f := 69) rfl ?_); refine goesL_ (some 44) rfl rfl Tryd.func69 (by kernel_rfl) rfl #[.slice A1 l1.length c1, .int .i64 (wrap64 ((ji15) - a2))] rfl (by (try simp only [List.map_toArray, List.map_cons, List.map_nil]); first | done | (simp only [hji15]; rfl) | rfl | (simp only [List.length_drop, List.length_take]; rfl)) ?_; (with_reducible refine (weigh_nat_up.calls kj8 (fun k_ => k_ < w.heap.size) _ _ l1 (wrap64 ((ji15) - a2)) t318 _ ?side1 A17.out).mono ?_); (case side1 => exact Kd.V_mk HC1.out (Kd.F_below (Kd.C_F (Kd.heap_int .u32) HR1.out) sqB)); rintro e w23 ⟨v319, rfl, ho0, hb⟩; refine ⟨_, rfl, ?_⟩; have n0_ := Aside0.mk (Kd.V_below (sqV HO317.out) hb); have n1_ := Aside0.mk (Kd.V_lower (Kd.V_mono (ok' := fun k_ => True) ho0 (fun k_ hk_ => trivial)) (below_size sqB)); have n2_ := Aside0.mk (below_step sqB hb); clear HO317; clear HB; have HO317 := n0_; have HO320 := n1_; have HB := n2_; clear n0_ n1_ n2_; (try clear hb); (try clear hb2); (try clear hk); (try clear hi); (try clear ho0); obtain ⟨Ao24, co24, eo24⟩ := Kd.V_slice HO317.out; subst eo24; obtain ⟨Ao25, co25, eo25⟩ := Kd.V_slice HO320.out; subst eo25) | ((with_reducible refine gate_callee (f := 71) rfl ?_); refine goesL_ (some 48) rfl rfl Tryd.func71 (by kernel_rfl) rfl #[.slice Ao24 t315.length co24, .slice Ao25 t318.length co25] rfl sqA ?_; (with_reducible refine (weigh_nat_over.calls kj8 (fun k_ => True) _ _ t315 (fun k_ => True) _ _ t318 t321 t322 _ ?side1 ?side2 A18.out).mono ?_); (case side1 => exact HO317.out); (case side2 => exact HO320.out); rintro e w26 ⟨v323, rfl, ho0, hb⟩; refine ⟨_, rfl, ?_⟩; have n0_ := Aside0.mk (Kd.V_below (sqV HO317.out) hb); have n1_ := Aside0.mk (Kd.V_below (sqV HO320.out) hb); have n2_ := Aside0.mk (Kd.V_lower (Kd.V_mono (ok' := fun k_ => True) ho0 (fun k_ hk_ => trivial)) (below_size sqB)); have n3_ := Aside0.mk (below_step sqB hb); clear HO317; clear HO320; clear HB; have HO317 := n0_; have HO320 := n1_; have HO324 := n2_; have HB := n3_; clear n0_ n1_ n2_ n3_; (try clear hb); (try clear hb2); (try clear hk); (try clear hi); (try clear ho0); obtain ⟨Ao27, co27, eo27⟩ := Kd.V_slice HO324.out; subst eo27) | ((with_reducible refine gate_callee (f := 72) rfl ?_); refine goesL_ (some 53) rfl rfl Tryd.func72 (by kernel_rfl) rfl #[.slice Ao27 t322.length co27, .slice Ao25 t318.length co25] rfl sqA ?_; (with_reducible refine (weigh_half.calls kj8 _ _ t322 _ _ t318 t325 _ ?side1 ?side2 ?side3 ?side4 A19.out).mono ?_); (case side1 => repeat (first | exact (Kd.V_reads' HO324.out).2.2 | (with_reducible refine Kd.C_alloc ?_ _) | (with_reducible refine Kd.C_drewN ?_ _) | (with_reducible refine Kd.C_drew ?_))); (case side2 => exact (Kd.V_reads' HO324.out).2.1); (case side3 => repeat (first | exact (Kd.V_reads' HO320.out).2.2 | (with_reducible refine Kd.C_alloc ?_ _) | (with_reducible refine Kd.C_drewN ?_ _) | (with_reducible refine Kd.C_drew ?_))); (case side4 => exact (Kd.V_reads' HO320.out).2.1); rintro e w28 ⟨rfl, hb⟩; refine ⟨_, rfl, ?_⟩; have n0_ := Aside0.mk (Kd.V_below (sqV HO317.out) hb); have n1_ := Aside0.mk (Kd.V_below (sqV HO320.out) hb); have n2_ := Aside0.mk (Kd.V_below (sqV HO324.out) hb); have n3_ := Aside0.mk (below_step sqB hb); clear HO317; clear HO320; clear HO324; clear HB; have HO317 := n0_; have HO320 := n1_; have HO324 := n2_; have HB := n3_; clear n0_ n1_ n2_ n3_; (try clear hb); (try clear hb2); (try clear hk); (try clear hi)) | ((with_reducible refine gate_callee (f := 73) rfl ?_); refine goesL_ (some 70) rfl rfl Tryd.func73 (by kernel_rfl) rfl #[.float .f64 (floatOfInt .f64 (IntKind.u64.wrap (t321 + 1))), .int .i64 ji15] rfl (by (try simp only [List.map_toArray, List.map_cons, List.map_nil]); first | done | (simp only [hji15]; rfl) | rfl | (simp only [List.length_drop, List.length_take]; rfl)) ?_; (with_reducible refine (math_Ldexp.calls (floatOfInt .f64 (IntKind.u64.wrap (t321 + 1))) ji15 t326 _ A21.out).mono ?_); rintro e w' ⟨rfl, ⟨nd, rfl⟩⟩; refine ⟨_, rfl, ?_⟩))
    go_ret
    exact ⟨by first | rfl | (simp [errW_none, errW_some] <;> rfl) | (simp only [← hji15]; first | rfl | (simp [errW_none, errW_some] <;> rfl)) | (simp [*, errW_none, errW_some] <;> rfl), sqB⟩
   rw [if_neg c20] at H
   have c20b0 := decide_eq_false c20
   clear c20
   by_cases c29 : t325 = 0
   ·rw [if_pos c29] at H
    have c29b0 := beq_iff_eq.mpr c29
    have c29b1 := bne_eq_false_iff_eq.mpr c29
    clear c29
    by_cases c30 : (Int.tmod t321 2) = 1
    ·rw [if_pos c30] at H
     have c30b0 := beq_iff_eq.mpr c30
     have c30b1 := bne_eq_false_iff_eq.mpr c30
     clear c30
     replace H := Option.bind_eq_some_iff.mp H
     obtain ⟨t327, A310, H⟩ := H
     try dsimp only at H
     have A31 := Aside0.mk A310
     clear A310
     obtain rfl := Option.some.inj H
     go_wp2_with (first | ((with_reducible refine gate_callee (f := 69) rfl ?_); refine goesL_ (some 39) rfl rfl Tryd.func69 (by kernel_rfl) rfl #[.slice A0 l0.length c0, .int .i64 (wrap64 (a2 - (ji15)))] rfl (by (try simp only [List.map_toArray, List.map_cons, List.map_nil]); first | done | (simp only [hji15]; rfl) | rfl | (simp only [List.length_drop, List.length_take]; rfl)) ?_; (with_reducible refine (weigh_nat_up.calls kj8 (fun k_ => k_ < w.heap.size) _ _ l0 (wrap64 (a2 - (ji15))) t315 _ ?side1 A16.out).mono ?_); (case side1 => exact Kd.V_mk HC0.out (Kd.F_below (Kd.C_F (Kd.heap_int .u32) HR0.out) sqB)); rintro e w32 ⟨v316, rfl, ho0, hb⟩; refine ⟨_, rfl, ?_⟩; have n0_ := Aside0.mk (Kd.V_lower (Kd.V_mono (ok' := fun k_ => True) ho0 (fun k_ hk_ => trivial)) (below_size sqB)); have n1_ := Aside0.mk (below_step sqB hb); clear HB; have HO317 := n0_; have HB := n1_; clear n0_ n1_; (try clear hb); (try clear hb2); (try clear hk); (try clear hi); (try clear ho0)) | ((with_reducible refine gate_callee (f := 69) rfl ?_); refine goesL_ (some 44) rfl rfl Tryd.func69 (by kernel_rfl) rfl #[.slice A1 l1.length c1, .int .i64 (wrap64 ((ji15) - a2))] rfl (by (try simp only [List.map_toArray, List.map_cons, List.map_nil]); first | done | (simp only [hji15]; rfl) | rfl | (simp only [List.length_drop, List.length_take]; rfl)) ?_; (with_reducible refine (weigh_nat_up.calls kj8 (fun k_ => k_ < w.heap.size) _ _ l1 (wrap64 ((ji15) - a2)) t318 _ ?side1 A17.out).mono ?_); (case side1 => exact Kd.V_mk HC1.out (Kd.F_below (Kd.C_F (Kd.heap_int .u32) HR1.out) sqB)); rintro e w33 ⟨v319, rfl, ho0, hb⟩; refine ⟨_, rfl, ?_⟩; have n0_ := Aside0.mk (Kd.V_below (sqV HO317.out) hb); have n1_ := Aside0.mk (Kd.V_lower (Kd.V_mono (ok' := fun k_ => True) ho0 (fun k_ hk_ => trivial)) (below_size sqB)); have n2_ := Aside0.mk (below_step sqB hb); clear HO317; clear HB; have HO317 := n0_; have HO320 := n1_; have HB := n2_; clear n0_ n1_ n2_; (try clear hb); (try clear hb2); (try clear hk); (try clear hi); (try clear ho0); obtain ⟨Ao34, co34, eo34⟩ := Kd.V_slice HO317.out; subst eo34; obtain ⟨Ao35, co35, eo35⟩ := Kd.V_slice HO320.out; subst eo35) | ((with_reducible refine gate_callee (f := 71) rfl ?_); refine goesL_ (some 48) rfl rfl Tryd.func71 (by kernel_rfl) rfl #[.slice Ao34 t315.length co34, .slice Ao35 t318.length co35] rfl sqA ?_; (with_reducible refine (weigh_nat_over.calls kj8 (fun k_ => True) _ _ t315 (fun k_ => True) _ _ t318 t321 t322 _ ?side1 ?side2 A18.out).mono ?_); (case side1 => exact HO317.out); (case side2 => exact HO320.out); rintro e w36 ⟨v323, rfl, ho0, hb⟩; refine ⟨_, rfl, ?_⟩; have n0_ := Aside0.mk (Kd.V_below (sqV HO317.out) hb); have n1_ := Aside0.mk (Kd.V_below (sqV HO320.out) hb); have n2_ := Aside0.mk (Kd.V_lower (Kd.V_mono (ok' := fun k_ => True) ho0 (fun k_ hk_ => trivial)) (below_size sqB)); have n3_ := Aside0.mk (below_step sqB hb); clear HO317; clear HO320; clear HB; have HO317 := n0_; have HO320 := n1_; have HO324 := n2_; have HB := n3_; clear n0_ n1_ n2_ n3_; (try clear hb); (try clear hb2); (try clear hk); (try clear hi); (try clear ho0); obtain ⟨Ao37, co37, eo37⟩ := Kd.V_slice HO324.out; subst eo37) | ((with_reducible refine gate_callee (f := 72) rfl ?_); refine goesL_ (some 53) rfl rfl Tryd.func72 (by kernel_rfl) rfl #[.slice Ao37 t322.length co37, .slice Ao35 t318.length co35] rfl sqA ?_; (with_reducible refine (weigh_half.calls kj8 _ _ t322 _ _ t318 t325 _ ?side1 ?side2 ?side3 ?side4 A19.out).mono ?_); (case side1 => repeat (first | exact (Kd.V_reads' HO324.out).2.2 | (with_reducible refine Kd.C_alloc ?_ _) | (with_reducible refine Kd.C_drewN ?_ _) | (with_reducible refine Kd.C_drew ?_))); (case side2 => exact (Kd.V_reads' HO324.out).2.1); (case side3 => repeat (first | exact (Kd.V_reads' HO320.out).2.2 | (with_reducible refine Kd.C_alloc ?_ _) | (with_reducible refine Kd.C_drewN ?_ _) | (with_reducible refine Kd.C_drew ?_))); (case side4 => exact (Kd.V_reads' HO320.out).2.1); rintro e w38 ⟨rfl, hb⟩; refine ⟨_, rfl, ?_⟩; have n0_ := Aside0.mk (Kd.V_below (sqV HO317.out) hb); have n1_ := Aside0.mk (Kd.V_below (sqV HO320.out) hb); have n2_ := Aside0.mk (Kd.V_below (sqV HO324.out) hb); have n3_ := Aside0.mk (below_step sqB hb); clear HO317; clear HO320; clear HO324; clear HB; have HO317 := n0_; have HO320 := n1_; have HO324 := n2_; have HB := n3_; clear n0_ n1_ n2_ n3_; (try clear hb); (try clear hb2); (try clear hk); (try clear hi)) | ((with_reducible refine gate_callee (f := 73) rfl ?_); refine goesL_ (some 70) rfl rfl Tryd.func73 (by kernel_rfl) rfl #[.float .f64 (floatOfInt .f64 (IntKind.u64.wrap (t321 + 1))), .int .i64 ji15] rfl (by (try simp only [List.map_toArray, List.map_cons, List.map_nil]); first | done | (simp only [hji15]; rfl) | rfl | (simp only [List.length_drop, List.length_take]; rfl)) ?_; (with_reducible refine (math_Ldexp.calls (floatOfInt .f64 (IntKind.u64.wrap (t321 + 1))) ji15 t327 _ A31.out).mono ?_); rintro e w' ⟨rfl, ⟨nd, rfl⟩⟩; refine ⟨_, rfl, ?_⟩))
     go_ret
     exact ⟨by first | rfl | (simp [errW_none, errW_some] <;> rfl) | (simp only [← hji15]; first | rfl | (simp [errW_none, errW_some] <;> rfl)) | (simp [*, errW_none, errW_some] <;> rfl), sqB⟩
    rw [if_neg c30] at H
    have c30b0 := beq_eq_false_iff_ne.mpr c30
    have c30b1 := bne_iff_ne.mpr c30
    replace H := Option.bind_eq_some_iff.mp H
    obtain ⟨t328, A390, H⟩ := H
    try dsimp only at H
    have A39 := Aside0.mk A390
    clear A390
    obtain rfl := Option.some.inj H
    go_wp2_with (first | ((with_reducible refine gate_callee (f := 69) rfl ?_); refine goesL_ (some 39) rfl rfl Tryd.func69 (by kernel_rfl) rfl #[.slice A0 l0.length c0, .int .i64 (wrap64 (a2 - (ji15)))] rfl (by (try simp only [List.map_toArray, List.map_cons, List.map_nil]); first | done | (simp only [hji15]; rfl) | rfl | (simp only [List.length_drop, List.length_take]; rfl)) ?_; (with_reducible refine (weigh_nat_up.calls kj8 (fun k_ => k_ < w.heap.size) _ _ l0 (wrap64 (a2 - (ji15))) t315 _ ?side1 A16.out).mono ?_); (case side1 => exact Kd.V_mk HC0.out (Kd.F_below (Kd.C_F (Kd.heap_int .u32) HR0.out) sqB)); rintro e w40 ⟨v316, rfl, ho0, hb⟩; refine ⟨_, rfl, ?_⟩; have n0_ := Aside0.mk (Kd.V_lower (Kd.V_mono (ok' := fun k_ => True) ho0 (fun k_ hk_ => trivial)) (below_size sqB)); have n1_ := Aside0.mk (below_step sqB hb); clear HB; have HO317 := n0_; have HB := n1_; clear n0_ n1_; (try clear hb); (try clear hb2); (try clear hk); (try clear hi); (try clear ho0)) | ((with_reducible refine gate_callee (f := 69) rfl ?_); refine goesL_ (some 44) rfl rfl Tryd.func69 (by kernel_rfl) rfl #[.slice A1 l1.length c1, .int .i64 (wrap64 ((ji15) - a2))] rfl (by (try simp only [List.map_toArray, List.map_cons, List.map_nil]); first | done | (simp only [hji15]; rfl) | rfl | (simp only [List.length_drop, List.length_take]; rfl)) ?_; (with_reducible refine (weigh_nat_up.calls kj8 (fun k_ => k_ < w.heap.size) _ _ l1 (wrap64 ((ji15) - a2)) t318 _ ?side1 A17.out).mono ?_); (case side1 => exact Kd.V_mk HC1.out (Kd.F_below (Kd.C_F (Kd.heap_int .u32) HR1.out) sqB)); rintro e w41 ⟨v319, rfl, ho0, hb⟩; refine ⟨_, rfl, ?_⟩; have n0_ := Aside0.mk (Kd.V_below (sqV HO317.out) hb); have n1_ := Aside0.mk (Kd.V_lower (Kd.V_mono (ok' := fun k_ => True) ho0 (fun k_ hk_ => trivial)) (below_size sqB)); have n2_ := Aside0.mk (below_step sqB hb); clear HO317; clear HB; have HO317 := n0_; have HO320 := n1_; have HB := n2_; clear n0_ n1_ n2_; (try clear hb); (try clear hb2); (try clear hk); (try clear hi); (try clear ho0); obtain ⟨Ao42, co42, eo42⟩ := Kd.V_slice HO317.out; subst eo42; obtain ⟨Ao43, co43, eo43⟩ := Kd.V_slice HO320.out; subst eo43) | ((with_reducible refine gate_callee (f := 71) rfl ?_); refine goesL_ (some 48) rfl rfl Tryd.func71 (by kernel_rfl) rfl #[.slice Ao42 t315.length co42, .slice Ao43 t318.length co43] rfl sqA ?_; (with_reducible refine (weigh_nat_over.calls kj8 (fun k_ => True) _ _ t315 (fun k_ => True) _ _ t318 t321 t322 _ ?side1 ?side2 A18.out).mono ?_); (case side1 => exact HO317.out); (case side2 => exact HO320.out); rintro e w44 ⟨v323, rfl, ho0, hb⟩; refine ⟨_, rfl, ?_⟩; have n0_ := Aside0.mk (Kd.V_below (sqV HO317.out) hb); have n1_ := Aside0.mk (Kd.V_below (sqV HO320.out) hb); have n2_ := Aside0.mk (Kd.V_lower (Kd.V_mono (ok' := fun k_ => True) ho0 (fun k_ hk_ => trivial)) (below_size sqB)); have n3_ := Aside0.mk (below_step sqB hb); clear HO317; clear HO320; clear HB; have HO317 := n0_; have HO320 := n1_; have HO324 := n2_; have HB := n3_; clear n0_ n1_ n2_ n3_; (try clear hb); (try clear hb2); (try clear hk); (try clear hi); (try clear ho0); obtain ⟨Ao45, co45, eo45⟩ := Kd.V_slice HO324.out; subst eo45) | ((with_reducible refine gate_callee (f := 72) rfl ?_); refine goesL_ (some 53) rfl rfl Tryd.func72 (by kernel_rfl) rfl #[.slice Ao45 t322.length co45, .slice Ao43 t318.length co43] rfl sqA ?_; (with_reducible refine (weigh_half.calls kj8 _ _ t322 _ _ t318 t325 _ ?side1 ?side2 ?side3 ?side4 A19.out).mono ?_); (case side1 => repeat (first | exact (Kd.V_reads' HO324.out).2.2 | (with_reducible refine Kd.C_alloc ?_ _) | (with_reducible refine Kd.C_drewN ?_ _) | (with_reducible refine Kd.C_drew ?_))); (case side2 => exact (Kd.V_reads' HO324.out).2.1); (case side3 => repeat (first | exact (Kd.V_reads' HO320.out).2.2 | (with_reducible refine Kd.C_alloc ?_ _) | (with_reducible refine Kd.C_drewN ?_ _) | (with_reducible refine Kd.C_drew ?_))); (case side4 => exact (Kd.V_reads' HO320.out).2.1); rintro e w46 ⟨rfl, hb⟩; refine ⟨_, rfl, ?_⟩; have n0_ := Aside0.mk (Kd.V_below (sqV HO317.out) hb); have n1_ := Aside0.mk (Kd.V_below (sqV HO320.out) hb); have n2_ := Aside0.mk (Kd.V_below (sqV HO324.out) hb); have n3_ := Aside0.mk (below_step sqB hb); clear HO317; clear HO320; clear HO324; clear HB; have HO317 := n0_; have HO320 := n1_; have HO324 := n2_; have HB := n3_; clear n0_ n1_ n2_ n3_; (try clear hb); (try clear hb2); (try clear hk); (try clear hi)) | ((with_reducible refine gate_callee (f := 73) rfl ?_); refine goesL_ (some 70) rfl rfl Tryd.func73 (by kernel_rfl) rfl #[.float .f64 (floatOfInt .f64 t321), .int .i64 ji15] rfl (by (try simp only [List.map_toArray, List.map_cons, List.map_nil]); first | done | (simp only [hji15]; rfl) | rfl | (simp only [List.length_drop, List.length_take]; rfl)) ?_; (with_reducible refine (math_Ldexp.calls (floatOfInt .f64 t321) ji15 t328 _ A39.out).mono ?_); rintro e w' ⟨rfl, ⟨nd, rfl⟩⟩; refine ⟨_, rfl, ?_⟩))
    go_ret
    exact ⟨by first | rfl | (simp [errW_none, errW_some] <;> rfl) | (simp only [← hji15]; first | rfl | (simp [errW_none, errW_some] <;> rfl)) | (simp [*, errW_none, errW_some] <;> rfl), sqB⟩
   rw [if_neg c29] at H
   have c29b0 := beq_eq_false_iff_ne.mpr c29
   have c29b1 := bne_iff_ne.mpr c29
   replace H := Option.bind_eq_some_iff.mp H
   obtain ⟨t329, A470, H⟩ := H
   try dsimp only at H
   have A47 := Aside0.mk A470
   clear A470
   obtain rfl := Option.some.inj H
   go_wp2_with (first | ((with_reducible refine gate_callee (f := 69) rfl ?_); refine goesL_ (some 39) rfl rfl Tryd.func69 (by kernel_rfl) rfl #[.slice A0 l0.length c0, .int .i64 (wrap64 (a2 - (ji15)))] rfl (by (try simp only [List.map_toArray, List.map_cons, List.map_nil]); first | done | (simp only [hji15]; rfl) | rfl | (simp only [List.length_drop, List.length_take]; rfl)) ?_; (with_reducible refine (weigh_nat_up.calls kj8 (fun k_ => k_ < w.heap.size) _ _ l0 (wrap64 (a2 - (ji15))) t315 _ ?side1 A16.out).mono ?_); (case side1 => exact Kd.V_mk HC0.out (Kd.F_below (Kd.C_F (Kd.heap_int .u32) HR0.out) sqB)); rintro e w48 ⟨v316, rfl, ho0, hb⟩; refine ⟨_, rfl, ?_⟩; have n0_ := Aside0.mk (Kd.V_lower (Kd.V_mono (ok' := fun k_ => True) ho0 (fun k_ hk_ => trivial)) (below_size sqB)); have n1_ := Aside0.mk (below_step sqB hb); clear HB; have HO317 := n0_; have HB := n1_; clear n0_ n1_; (try clear hb); (try clear hb2); (try clear hk); (try clear hi); (try clear ho0)) | ((with_reducible refine gate_callee (f := 69) rfl ?_); refine goesL_ (some 44) rfl rfl Tryd.func69 (by kernel_rfl) rfl #[.slice A1 l1.length c1, .int .i64 (wrap64 ((ji15) - a2))] rfl (by (try simp only [List.map_toArray, List.map_cons, List.map_nil]); first | done | (simp only [hji15]; rfl) | rfl | (simp only [List.length_drop, List.length_take]; rfl)) ?_; (with_reducible refine (weigh_nat_up.calls kj8 (fun k_ => k_ < w.heap.size) _ _ l1 (wrap64 ((ji15) - a2)) t318 _ ?side1 A17.out).mono ?_); (case side1 => exact Kd.V_mk HC1.out (Kd.F_below (Kd.C_F (Kd.heap_int .u32) HR1.out) sqB)); rintro e w49 ⟨v319, rfl, ho0, hb⟩; refine ⟨_, rfl, ?_⟩; have n0_ := Aside0.mk (Kd.V_below (sqV HO317.out) hb); have n1_ := Aside0.mk (Kd.V_lower (Kd.V_mono (ok' := fun k_ => True) ho0 (fun k_ hk_ => trivial)) (below_size sqB)); have n2_ := Aside0.mk (below_step sqB hb); clear HO317; clear HB; have HO317 := n0_; have HO320 := n1_; have HB := n2_; clear n0_ n1_ n2_; (try clear hb); (try clear hb2); (try clear hk); (try clear hi); (try clear ho0); obtain ⟨Ao50, co50, eo50⟩ := Kd.V_slice HO317.out; subst eo50; obtain ⟨Ao51, co51, eo51⟩ := Kd.V_slice HO320.out; subst eo51) | ((with_reducible refine gate_callee (f := 71) rfl ?_); refine goesL_ (some 48) rfl rfl Tryd.func71 (by kernel_rfl) rfl #[.slice Ao50 t315.length co50, .slice Ao51 t318.length co51] rfl sqA ?_; (with_reducible refine (weigh_nat_over.calls kj8 (fun k_ => True) _ _ t315 (fun k_ => True) _ _ t318 t321 t322 _ ?side1 ?side2 A18.out).mono ?_); (case side1 => exact HO317.out); (case side2 => exact HO320.out); rintro e w52 ⟨v323, rfl, ho0, hb⟩; refine ⟨_, rfl, ?_⟩; have n0_ := Aside0.mk (Kd.V_below (sqV HO317.out) hb); have n1_ := Aside0.mk (Kd.V_below (sqV HO320.out) hb); have n2_ := Aside0.mk (Kd.V_lower (Kd.V_mono (ok' := fun k_ => True) ho0 (fun k_ hk_ => trivial)) (below_size sqB)); have n3_ := Aside0.mk (below_step sqB hb); clear HO317; clear HO320; clear HB; have HO317 := n0_; have HO320 := n1_; have HO324 := n2_; have HB := n3_; clear n0_ n1_ n2_ n3_; (try clear hb); (try clear hb2); (try clear hk); (try clear hi); (try clear ho0); obtain ⟨Ao53, co53, eo53⟩ := Kd.V_slice HO324.out; subst eo53) | ((with_reducible refine gate_callee (f := 72) rfl ?_); refine goesL_ (some 53) rfl rfl Tryd.func72 (by kernel_rfl) rfl #[.slice Ao53 t322.length co53, .slice Ao51 t318.length co51] rfl sqA ?_; (with_reducible refine (weigh_half.calls kj8 _ _ t322 _ _ t318 t325 _ ?side1 ?side2 ?side3 ?side4 A19.out).mono ?_); (case side1 => repeat (first | exact (Kd.V_reads' HO324.out).2.2 | (with_reducible refine Kd.C_alloc ?_ _) | (with_reducible refine Kd.C_drewN ?_ _) | (with_reducible refine Kd.C_drew ?_))); (case side2 => exact (Kd.V_reads' HO324.out).2.1); (case side3 => repeat (first | exact (Kd.V_reads' HO320.out).2.2 | (with_reducible refine Kd.C_alloc ?_ _) | (with_reducible refine Kd.C_drewN ?_ _) | (with_reducible refine Kd.C_drew ?_))); (case side4 => exact (Kd.V_reads' HO320.out).2.1); rintro e w54 ⟨rfl, hb⟩; refine ⟨_, rfl, ?_⟩; have n0_ := Aside0.mk (Kd.V_below (sqV HO317.out) hb); have n1_ := Aside0.mk (Kd.V_below (sqV HO320.out) hb); have n2_ := Aside0.mk (Kd.V_below (sqV HO324.out) hb); have n3_ := Aside0.mk (below_step sqB hb); clear HO317; clear HO320; clear HO324; clear HB; have HO317 := n0_; have HO320 := n1_; have HO324 := n2_; have HB := n3_; clear n0_ n1_ n2_ n3_; (try clear hb); (try clear hb2); (try clear hk); (try clear hi)) | ((with_reducible refine gate_callee (f := 73) rfl ?_); refine goesL_ (some 70) rfl rfl Tryd.func73 (by kernel_rfl) rfl #[.float .f64 (floatOfInt .f64 t321), .int .i64 ji15] rfl (by (try simp only [List.map_toArray, List.map_cons, List.map_nil]); first | done | (simp only [hji15]; rfl) | rfl | (simp only [List.length_drop, List.length_take]; rfl)) ?_; (with_reducible refine (math_Ldexp.calls (floatOfInt .f64 t321) ji15 t329 _ A47.out).mono ?_); rintro e w' ⟨rfl, ⟨nd, rfl⟩⟩; refine ⟨_, rfl, ?_⟩))
   go_ret
   exact ⟨by first | rfl | (simp [errW_none, errW_some] <;> rfl) | (simp only [← hji15]; first | rfl | (simp [errW_none, errW_some] <;> rfl)) | (simp [*, errW_none, errW_some] <;> rfl), sqB⟩

/-! ### weigh_Parse: function 19 -/
mutual
def weigh_Parse.j0 : Nat → ByteArray → Int → Bool → Option (Nat × Int)
 | 0, _, _, _ => none
 | k + 1, x0, x5, x36 => if x36 = true then (some ((0 : Nat), 20)) else ((weigh_read.f k x0).bind fun bt335 => (if bt335.1 > 0 then ((weigh_natOf.f k bt335.1).bind fun t337 => ((weigh_nat_ten.f k t337 (wrap64 (x5 - bt335.2))).bind fun t340 => ((weigh_natOf.f k 1).bind fun t343 => ((weigh_nat_ten.f k t343 (wrap64 (-(wrap64 (x5 - bt335.2))))).bind fun t346 => ((weigh_rounded.f k t340 t346 0).bind fun t349 => (weigh_Parse.j1 k x0 t349)))))) else (weigh_Parse.j1 k x0 (0 : Nat))))
def weigh_Parse.j1 : Nat → ByteArray → Nat → Option (Nat × Int)
 | 0, _, _ => none
 | k + 1, x0, x9 => (math_IsInf.f x9 0).bind fun t350 => (if t350 = true then (some ((0 : Nat), 21)) else (if 0 < (x0.size : Int) then (if (bt x0 0) = 45 then ((math_Copysign.f x9 (13830554455654793216 : Nat)).bind fun t351 => (some (t351, 0))) else (some (x9, 0))) else (none)))
end
def weigh_Parse.f (k : Nat) (a0 : ByteArray) : Option (Nat × Int) := if a0.toList = ([105, 110, 102] : List UInt8) then ((math_Inf.f 1).bind fun t330 => (some (t330, 0))) else (if a0.toList = ([45, 105, 110, 102] : List UInt8) then ((math_Inf.f (-1)).bind fun t331 => (some (t331, 0))) else ((weigh_form.f k a0).bind fun bt332 => (if bt332.2.2 = true then (if bt332.1 > 17 then (weigh_Parse.j0 k a0 bt332.2.1 true) else (if bt332.2.1 < (-400) then (weigh_Parse.j0 k a0 bt332.2.1 true) else (weigh_Parse.j0 k a0 bt332.2.1 (decide (bt332.2.1 > 400))))) else (weigh_Parse.j0 k a0 bt332.2.1 true))))
theorem weigh_Parse.mono_l : ∀ k, (∀ y0 y1 y2, LeO (weigh_Parse.j0 k y0 y1 y2) (weigh_Parse.j0 (k + 1) y0 y1 y2)) ∧ (∀ y0 y1, LeO (weigh_Parse.j1 k y0 y1) (weigh_Parse.j1 (k + 1) y0 y1))
 | 0 => ⟨fun _ _ _ r h => by simp [weigh_Parse.j0] at h, fun _ _ r h => by simp [weigh_Parse.j1] at h⟩
 | k + 1 => by
  obtain ⟨ih0, ih1⟩ := weigh_Parse.mono_l k
  refine ⟨?_, ?_⟩
  ·intro y0 y1 y2
   unfold weigh_Parse.j0
   repeat' first | (with_reducible first | apply ih0 | apply ih1 | apply weigh_form.mono | apply weigh_natOf.mono | apply weigh_nat_ten.mono | apply weigh_read.mono | apply weigh_rounded.mono | apply LeO.refl | apply LeO.none | refine LeO.ite ?_ ?_ | refine LeO.bind ?_ (fun _ => ?_)) | apply ih0 | apply ih1 | apply weigh_form.mono | apply weigh_natOf.mono | apply weigh_nat_ten.mono | apply weigh_read.mono | apply weigh_rounded.mono | apply LeO.none | refine LeO.ite ?_ ?_ | refine LeO.bind ?_ (fun _ => ?_)
  intro y0 y1
  unfold weigh_Parse.j1
  repeat' first | (with_reducible first | apply ih0 | apply ih1 | apply weigh_form.mono | apply weigh_natOf.mono | apply weigh_nat_ten.mono | apply weigh_read.mono | apply weigh_rounded.mono | apply LeO.refl | apply LeO.none | refine LeO.ite ?_ ?_ | refine LeO.bind ?_ (fun _ => ?_)) | apply ih0 | apply ih1 | apply weigh_form.mono | apply weigh_natOf.mono | apply weigh_nat_ten.mono | apply weigh_read.mono | apply weigh_rounded.mono | apply LeO.none | refine LeO.ite ?_ ?_ | refine LeO.bind ?_ (fun _ => ?_)
theorem weigh_Parse.mono : ∀ a0 k, LeO (weigh_Parse.f k a0) (weigh_Parse.f (k + 1) a0) := by
 intro a0 k
 obtain ⟨ih0, ih1⟩ := weigh_Parse.mono_l k
 unfold weigh_Parse.f
 repeat' first | (with_reducible first | apply ih0 | apply ih1 | apply weigh_form.mono | apply weigh_natOf.mono | apply weigh_nat_ten.mono | apply weigh_read.mono | apply weigh_rounded.mono | apply LeO.refl | apply LeO.none | refine LeO.ite ?_ ?_ | refine LeO.bind ?_ (fun _ => ?_)) | apply ih0 | apply ih1 | apply weigh_form.mono | apply weigh_natOf.mono | apply weigh_nat_ten.mono | apply weigh_read.mono | apply weigh_rounded.mono | apply LeO.none | refine LeO.ite ?_ ?_ | refine LeO.bind ?_ (fun _ => ?_)
set_option maxHeartbeats 8000000 in
set_option maxRecDepth 100000 in
theorem weigh_Parse.calls (k : Nat) (a0 : ByteArray) (r1 : Nat) (r2 : Int) (w : World) (h : weigh_Parse.f k a0 = some (r1, r2)) :
  Calls Tryd.prog 19 #[.string a0] w fun e w' => e = .returned (.tuple #[.float .f64 r1, .int .i64 r2]) ∧ Below w.heap.size w w' := by
 have HB := Aside0.mk (Below.refl w.heap.size w)
 have H : (if a0.toList = ([105, 110, 102] : List UInt8) then ((math_Inf.f 1).bind fun t330 => (some (t330, 0))) else (if a0.toList = ([45, 105, 110, 102] : List UInt8) then ((math_Inf.f (-1)).bind fun t331 => (some (t331, 0))) else ((weigh_form.f k a0).bind fun bt332 => (if bt332.2.2 = true then (if bt332.1 > 17 then (weigh_Parse.j0 k a0 bt332.2.1 true) else (if bt332.2.1 < (-400) then (weigh_Parse.j0 k a0 bt332.2.1 true) else (weigh_Parse.j0 k a0 bt332.2.1 (decide (bt332.2.1 > 400))))) else (weigh_Parse.j0 k a0 bt332.2.1 true))))) = some (r1, r2) := h
 clear h
 by_cases c2 : a0.toList = ([105, 110, 102] : List UInt8)
 ·rw [if_pos c2] at H
  have c2b0 := beq_iff_eq.mpr c2
  have c2b1 := bne_eq_false_iff_eq.mpr c2
  clear c2
  replace H := Option.bind_eq_some_iff.mp H
  obtain ⟨t330, A30, H⟩ := H
  try dsimp only at H
  have A3 := Aside0.mk A30
  clear A30
  simp only [Option.some.injEq, Prod.mk.injEq] at H
  obtain ⟨rfl, rfl⟩ := H
  go_enter Tryd.func19, Tryd.ntmps19
  go_wp2_with (first | ((with_reducible refine gate_callee (f := 42) rfl ?_); refine goesL_ (some 13) rfl rfl Tryd.func42 (by kernel_rfl) rfl #[.int .i64 1] rfl sqA ?_; (with_reducible refine (math_Inf.calls 1 t330 _ A3.out).mono ?_); rintro e w' ⟨rfl, ⟨nd, rfl⟩⟩; refine ⟨_, rfl, ?_⟩))
  go_ret2
  exact ⟨sqE', sqB⟩
 rw [if_neg c2] at H
 have c2b0 := beq_eq_false_iff_ne.mpr c2
 have c2b1 := bne_iff_ne.mpr c2
 by_cases c4 : a0.toList = ([45, 105, 110, 102] : List UInt8)
 ·rw [if_pos c4] at H
  have c4b0 := beq_iff_eq.mpr c4
  have c4b1 := bne_eq_false_iff_eq.mpr c4
  clear c4
  replace H := Option.bind_eq_some_iff.mp H
  obtain ⟨t331, A50, H⟩ := H
  try dsimp only at H
  have A5 := Aside0.mk A50
  clear A50
  simp only [Option.some.injEq, Prod.mk.injEq] at H
  obtain ⟨rfl, rfl⟩ := H
  go_enter Tryd.func19, Tryd.ntmps19
  go_wp2_with (first | ((with_reducible refine gate_callee (f := 42) rfl ?_); refine goesL_ (some 16) rfl rfl Tryd.func42 (by kernel_rfl) rfl #[.int .i64 (-1)] rfl sqA ?_; (with_reducible refine (math_Inf.calls (-1) t331 _ A5.out).mono ?_); rintro e w' ⟨rfl, ⟨nd, rfl⟩⟩; refine ⟨_, rfl, ?_⟩))
  go_ret2
  exact ⟨sqE', sqB⟩
 rw [if_neg c4] at H
 have c4b0 := beq_eq_false_iff_ne.mpr c4
 have c4b1 := bne_iff_ne.mpr c4
 replace H := Option.bind_eq_some_iff.mp H
 obtain ⟨⟨t332, t333, t334⟩, A60, H⟩ := H
 try dsimp only at H
 have A6 := Aside0.mk A60
 clear A60
 have HC7 := Aside0.mk H
 clear H
 go_enter Tryd.func19, Tryd.ntmps19
 go_upto_region 7 with (first | ((with_reducible refine gate_callee (f := 43) rfl ?_); refine goesL_ (some 19) rfl rfl Tryd.func43 (by kernel_rfl) rfl #[.string a0] rfl sqA ?_; (with_reducible refine (weigh_form.calls k a0 t332 t333 t334 _ A6.out).mono ?_); rintro e w' ⟨rfl, ⟨nd, rfl⟩⟩; refine ⟨_, rfl, ?_⟩))
 (try simp only [Act.put, List.setIfInBounds_toArray, List.set_cons_zero, List.set_cons_succ])
 go_cut [36] (fun v36 wc => ∃ (kq : Nat) (x36_6 : Bool), v36 = .bool x36_6 ∧ Aside0 (weigh_Parse.j0 kq a0 t333 x36_6 = some (r1, r2)) ∧ Aside0 (kq ≤ k) ∧ Aside0 (Below w.heap.size w wc))
 case first =>
  have H := HC7.out
  clear HC7
  by_cases c8 : t334 = true
  ·subst c8
   have H1 : (if t332 > 17 then (weigh_Parse.j0 k a0 t333 true) else (if t333 < (-400) then (weigh_Parse.j0 k a0 t333 true) else (weigh_Parse.j0 k a0 t333 (decide (t333 > 400))))) = some (r1, r2) := by rw [if_pos rfl] at H; exact H
   clear H
   have H := H1
   clear H1
   by_cases c9 : t332 > 17
   ·rw [if_pos c9] at H
    have c9b0 := decide_eq_true c9
    clear c9
    (first | rw [c9b0] | (simp only [i64_w, i32_w]; rw [c9b0]) | skip)
    have H' := Aside0.mk H
    clear H
    go_wp2
    go_meet
    case rel => exact ⟨_, (true), sqE, H', ⟨by first | omega | exact Nat.le_refl _⟩, ⟨sqB⟩⟩
   rw [if_neg c9] at H
   have c9b0 := decide_eq_false c9
   clear c9
   (first | rw [c9b0] | (simp only [i64_w, i32_w]; rw [c9b0]) | skip)
   by_cases c10 : t333 < (-400)
   ·rw [if_pos c10] at H
    have c10b0 := decide_eq_true c10
    clear c10
    have H' := Aside0.mk H
    clear H
    go_wp2
    go_meet
    case rel => exact ⟨_, (true), sqE, H', ⟨by first | omega | exact Nat.le_refl _⟩, ⟨sqB⟩⟩
   rw [if_neg c10] at H
   have c10b0 := decide_eq_false c10
   clear c10
   have H' := Aside0.mk H
   clear H
   go_wp2
   go_meet
   case rel => exact ⟨_, (decide (t333 > 400)), sqE, H', ⟨by first | omega | exact Nat.le_refl _⟩, ⟨sqB⟩⟩
  replace c8 := Bool.eq_false_iff.mpr c8
  subst c8
  have H1 : (weigh_Parse.j0 k a0 t333 true) = some (r1, r2) := by rw [if_neg (show ¬ (false = true) by decide)] at H; exact H
  clear H
  have H := H1
  clear H1
  have H' := Aside0.mk H
  clear H
  go_wp2
  go_meet
  case rel => exact ⟨_, (true), sqE, H', ⟨by first | omega | exact Nat.le_refl _⟩, ⟨sqB⟩⟩
 case rest =>
  clear HC7
  try clear c1
  try clear c2
  try clear c2b0
  try clear c2b1
  try clear p2
  try clear c4
  try clear c4b0
  try clear c4b1
  try clear c8
  try clear c9
  try clear c9b0
  try clear c10
  try clear c10b0
  obtain ⟨kq, x36_6, rfl, HA, HJ6, HB⟩ := hcut
  cases kq with
  | zero => exact absurd HA.out (by simp [weigh_Parse.j0])
  | succ kj6 =>
   have H := HA.out
   clear HA
   simp only [weigh_Parse.j0] at H
   by_cases c11 : x36_6 = true
   ·subst c11
    have H1 : (some ((0 : Nat), 20)) = some (r1, r2) := by rw [if_pos rfl] at H; exact H
    clear H
    have H := H1
    clear H1
    simp only [Option.some.injEq, Prod.mk.injEq] at H
    obtain ⟨rfl, rfl⟩ := H
    go_wp2
    go_ret2
    exact ⟨sqE', sqB⟩
   replace c11 := Bool.eq_false_iff.mpr c11
   subst c11
   have H1 : ((weigh_read.f kj6 a0).bind fun bt335 => (if bt335.1 > 0 then ((weigh_natOf.f kj6 bt335.1).bind fun t337 => ((weigh_nat_ten.f kj6 t337 (wrap64 (t333 - bt335.2))).bind fun t340 => ((weigh_natOf.f kj6 1).bind fun t343 => ((weigh_nat_ten.f kj6 t343 (wrap64 (-(wrap64 (t333 - bt335.2))))).bind fun t346 => ((weigh_rounded.f kj6 t340 t346 0).bind fun t349 => (weigh_Parse.j1 kj6 a0 t349)))))) else (weigh_Parse.j1 kj6 a0 (0 : Nat)))) = some (r1, r2) := by rw [if_neg (show ¬ (false = true) by decide)] at H; exact H
   clear H
   have H := H1
   clear H1
   replace H := Option.bind_eq_some_iff.mp H
   obtain ⟨⟨t335, t336⟩, A120, H⟩ := H
   try dsimp only at H
   have A12 := Aside0.mk A120
   clear A120
   have HC13 := Aside0.mk H
   clear H
   go_upto_if 43 with (first | ((with_reducible refine gate_callee (f := 44) rfl ?_); refine goesL_ (some 39) rfl rfl Tryd.func44 (by kernel_rfl) rfl #[.string a0] rfl sqA ?_; (with_reducible refine (weigh_read.calls kj6 a0 t335 t336 _ A12.out).mono ?_); rintro e w' ⟨rfl, ⟨nd, rfl⟩⟩; refine ⟨_, rfl, ?_⟩))
   (try simp only [Act.put, List.setIfInBounds_toArray, List.set_cons_zero, List.set_cons_succ])
   go_cut [9] (fun v9 wc => ∃ (kq : Nat) (x9_12 : Nat), v9 = .float .f64 x9_12 ∧ Aside0 (weigh_Parse.j1 kq a0 x9_12 = some (r1, r2)) ∧ Aside0 (kq ≤ kj6) ∧ Aside0 (Below w.heap.size w wc))
   case first =>
    have H := HC13.out
    clear HC13
    by_cases c14 : t335 > 0
    ·rw [if_pos c14] at H
     have c14b0 := decide_eq_true c14
     clear c14
     (first | rw [c14b0] | (simp only [i64_w, i32_w]; rw [c14b0]) | skip)
     replace H := Option.bind_eq_some_iff.mp H
     obtain ⟨t337, A150, H⟩ := H
     try dsimp only at H
     have A15 := Aside0.mk A150
     clear A150
     replace H := Option.bind_eq_some_iff.mp H
     obtain ⟨t340, A160, H⟩ := H
     try dsimp only at H
     have A16 := Aside0.mk A160
     clear A160
     replace H := Option.bind_eq_some_iff.mp H
     obtain ⟨t343, A170, H⟩ := H
     try dsimp only at H
     have A17 := Aside0.mk A170
     clear A170
     replace H := Option.bind_eq_some_iff.mp H
     obtain ⟨t346, A180, H⟩ := H
     try dsimp only at H
     have A18 := Aside0.mk A180
     clear A180
     replace H := Option.bind_eq_some_iff.mp H
     obtain ⟨t349, A190, H⟩ := H
     try dsimp only at H
     have A19 := Aside0.mk A190
     clear A190
     have H' := Aside0.mk H
     clear H
     go_wp2_with (first | ((with_reducible refine gate_callee (f := 46) rfl ?_); refine goesL_ (some 48) rfl rfl Tryd.func46 (by kernel_rfl) rfl #[.int .u64 t335] rfl sqA ?_; (with_reducible refine (weigh_natOf.calls kj6 t335 t337 _ A15.out).mono ?_); rintro e w20 ⟨v338, rfl, ho0, hb⟩; refine ⟨_, rfl, ?_⟩; have n0_ := Aside0.mk (Kd.V_lower (Kd.V_mono (ok' := fun k_ => True) ho0 (fun k_ hk_ => trivial)) (below_size sqB)); have n1_ := Aside0.mk (below_step sqB hb); clear HB; have HO339 := n0_; have HB := n1_; clear n0_ n1_; (try clear hb); (try clear hb2); (try clear hk); (try clear hi); (try clear ho0); obtain ⟨Ao21, co21, eo21⟩ := Kd.V_slice HO339.out; subst eo21) | ((with_reducible refine gate_callee (f := 47) rfl ?_); refine goesL_ (some 50) rfl rfl Tryd.func47 (by kernel_rfl) rfl #[.slice Ao21 t337.length co21, .int .i64 (wrap64 (t333 - t336))] rfl sqA ?_; (with_reducible refine (weigh_nat_ten.calls kj6 (fun k_ => True) _ _ t337 (wrap64 (t333 - t336)) t340 _ ?side1 A16.out).mono ?_); (case side1 => exact HO339.out); rintro e w22 ⟨v341, rfl, ho0, hb⟩; refine ⟨_, rfl, ?_⟩; have n0_ := Aside0.mk (Kd.V_below (sqV HO339.out) hb); have n1_ := Aside0.mk (Kd.V_lower (Kd.V_mono (ok' := fun k_ => True) ho0 (fun k_ hk_ => trivial)) (below_size sqB)); have n2_ := Aside0.mk (below_step sqB hb); clear HO339; clear HB; have HO339 := n0_; have HO342 := n1_; have HB := n2_; clear n0_ n1_ n2_; (try clear hb); (try clear hb2); (try clear hk); (try clear hi); (try clear ho0)) | ((with_reducible refine gate_callee (f := 46) rfl ?_); refine goesL_ (some 51) rfl rfl Tryd.func46 (by kernel_rfl) rfl #[.int .u64 1] rfl sqA ?_; (with_reducible refine (weigh_natOf.calls kj6 1 t343 _ A17.out).mono ?_); rintro e w23 ⟨v344, rfl, ho0, hb⟩; refine ⟨_, rfl, ?_⟩; have n0_ := Aside0.mk (Kd.V_below (sqV HO339.out) hb); have n1_ := Aside0.mk (Kd.V_below (sqV HO342.out) hb); have n2_ := Aside0.mk (Kd.V_lower (Kd.V_mono (ok' := fun k_ => True) ho0 (fun k_ hk_ => trivial)) (below_size sqB)); have n3_ := Aside0.mk (below_step sqB hb); clear HO339; clear HO342; clear HB; have HO339 := n0_; have HO342 := n1_; have HO345 := n2_; have HB := n3_; clear n0_ n1_ n2_ n3_; (try clear hb); (try clear hb2); (try clear hk); (try clear hi); (try clear ho0); obtain ⟨Ao24, co24, eo24⟩ := Kd.V_slice HO345.out; subst eo24) | ((with_reducible refine gate_callee (f := 47) rfl ?_); refine goesL_ (some 54) rfl rfl Tryd.func47 (by kernel_rfl) rfl #[.slice Ao24 t343.length co24, .int .i64 (wrap64 (-(wrap64 (t333 - t336))))] rfl sqA ?_; (with_reducible refine (weigh_nat_ten.calls kj6 (fun k_ => True) _ _ t343 (wrap64 (-(wrap64 (t333 - t336)))) t346 _ ?side1 A18.out).mono ?_); (case side1 => exact HO345.out); rintro e w25 ⟨v347, rfl, ho0, hb⟩; refine ⟨_, rfl, ?_⟩; have n0_ := Aside0.mk (Kd.V_below (sqV HO339.out) hb); have n1_ := Aside0.mk (Kd.V_below (sqV HO342.out) hb); have n2_ := Aside0.mk (Kd.V_below (sqV HO345.out) hb); have n3_ := Aside0.mk (Kd.V_lower (Kd.V_mono (ok' := fun k_ => True) ho0 (fun k_ hk_ => trivial)) (below_size sqB)); have n4_ := Aside0.mk (below_step sqB hb); clear HO339; clear HO342; clear HO345; clear HB; have HO339 := n0_; have HO342 := n1_; have HO345 := n2_; have HO348 := n3_; have HB := n4_; clear n0_ n1_ n2_ n3_ n4_; (try clear hb); (try clear hb2); (try clear hk); (try clear hi); (try clear ho0); obtain ⟨Ao26, co26, eo26⟩ := Kd.V_slice HO342.out; subst eo26; obtain ⟨Ao27, co27, eo27⟩ := Kd.V_slice HO348.out; subst eo27) | ((with_reducible refine gate_callee (f := 45) rfl ?_); refine goesL_ (some 55) rfl rfl Tryd.func45 (by kernel_rfl) rfl #[.slice Ao26 t340.length co26, .slice Ao27 t346.length co27, .int .i64 0] rfl sqA ?_; (with_reducible refine (weigh_rounded.calls kj6 _ _ t340 _ _ t346 0 t349 _ ?side1 ?side2 ?side3 ?side4 A19.out).mono ?_); (case side1 => repeat (first | exact (Kd.V_reads' HO342.out).2.2 | (with_reducible refine Kd.C_alloc ?_ _) | (with_reducible refine Kd.C_drewN ?_ _) | (with_reducible refine Kd.C_drew ?_))); (case side2 => exact (Kd.V_reads' HO342.out).2.1); (case side3 => repeat (first | exact (Kd.V_reads' HO348.out).2.2 | (with_reducible refine Kd.C_alloc ?_ _) | (with_reducible refine Kd.C_drewN ?_ _) | (with_reducible refine Kd.C_drew ?_))); (case side4 => exact (Kd.V_reads' HO348.out).2.1); rintro e w28 ⟨rfl, hb⟩; refine ⟨_, rfl, ?_⟩; have n0_ := Aside0.mk (Kd.V_below (sqV HO339.out) hb); have n1_ := Aside0.mk (Kd.V_below (sqV HO342.out) hb); have n2_ := Aside0.mk (Kd.V_below (sqV HO345.out) hb); have n3_ := Aside0.mk (Kd.V_below (sqV HO348.out) hb); have n4_ := Aside0.mk (below_step sqB hb); clear HO339; clear HO342; clear HO345; clear HO348; clear HB; have HO339 := n0_; have HO342 := n1_; have HO345 := n2_; have HO348 := n3_; have HB := n4_; clear n0_ n1_ n2_ n3_ n4_; (try clear hb); (try clear hb2); (try clear hk); (try clear hi)))
     go_meet
     case rel => exact ⟨_, (t349), sqE, H', ⟨by have := HJ6.out; first | omega | exact Nat.le_refl _⟩, ⟨sqB⟩⟩
    rw [if_neg c14] at H
    have c14b0 := decide_eq_false c14
    clear c14
    (first | rw [c14b0] | (simp only [i64_w, i32_w]; rw [c14b0]) | skip)
    have H' := Aside0.mk H
    clear H
    go_wp2
    go_meet
    case rel => exact ⟨_, ((0 : Nat)), sqE, H', ⟨by have := HJ6.out; first | omega | exact Nat.le_refl _⟩, ⟨sqB⟩⟩
   case rest =>
    clear HC13
    try clear c1
    try clear c2
    try clear c2b0
    try clear c2b1
    try clear p2
    try clear c4
    try clear c4b0
    try clear c4b1
    try clear p6
    try clear c8
    try clear c9
    try clear c9b0
    try clear c10
    try clear c10b0
    try clear c11
    try clear c14
    try clear c14b0
    try clear c19
    try clear p2
    obtain ⟨kq, x9_12, rfl, HA, HJ12, HB⟩ := hcut
    cases kq with
    | zero => exact absurd HA.out (by simp [weigh_Parse.j1])
    | succ kj12 =>
     have H := HA.out
     clear HA
     simp only [weigh_Parse.j1] at H
     replace H := Option.bind_eq_some_iff.mp H
     obtain ⟨t350, A290, H⟩ := H
     try dsimp only at H
     have A29 := Aside0.mk A290
     clear A290
     by_cases c30 : t350 = true
     ·subst c30
      have H1 : (some ((0 : Nat), 21)) = some (r1, r2) := by rw [if_pos rfl] at H; exact H
      clear H
      have H := H1
      clear H1
      simp only [Option.some.injEq, Prod.mk.injEq] at H
      obtain ⟨rfl, rfl⟩ := H
      go_wp2_with (first | ((with_reducible refine gate_callee (f := 37) rfl ?_); refine goesL_ (some 57) rfl rfl Tryd.func37 (by kernel_rfl) rfl #[.float .f64 x9_12, .int .i64 0] rfl sqA ?_; (with_reducible refine (math_IsInf.calls x9_12 0 true _ A29.out).mono ?_); rintro e w' ⟨rfl, ⟨nd, rfl⟩⟩; refine ⟨_, rfl, ?_⟩))
      go_ret2
      exact ⟨sqE', sqB⟩
     replace c30 := Bool.eq_false_iff.mpr c30
     subst c30
     have H1 : (if 0 < (a0.size : Int) then (if (bt a0 0) = 45 then ((math_Copysign.f x9_12 (13830554455654793216 : Nat)).bind fun t351 => (some (t351, 0))) else (some (x9_12, 0))) else (none)) = some (r1, r2) := by rw [if_neg (show ¬ (false = true) by decide)] at H; exact H
     clear H
     have H := H1
     clear H1
     by_cases c31 : 0 < (a0.size : Int)
     case neg => rw [if_neg c31] at H; exact absurd H (by simp)
     rw [if_pos c31] at H
     have c31b0 := decide_eq_true c31
     have c31b1 : decide (0 < a0.size) = true := decide_eq_true (by omega)
     clear c31
     by_cases c33 : (bt a0 0) = 45
     ·rw [if_pos c33] at H
      have c33b0 := beq_iff_eq.mpr c33
      have c33b1 := bne_eq_false_iff_eq.mpr c33
      clear c33
      replace H := Option.bind_eq_some_iff.mp H
      obtain ⟨t351, A340, H⟩ := H
      try dsimp only at H
      have A34 := Aside0.mk A340
      clear A340
      simp only [Option.some.injEq, Prod.mk.injEq] at H
      obtain ⟨rfl, rfl⟩ := H
      go_wp2_with (first | ((with_reducible refine gate_callee (f := 37) rfl ?_); refine goesL_ (some 57) rfl rfl Tryd.func37 (by kernel_rfl) rfl #[.float .f64 x9_12, .int .i64 0] rfl sqA ?_; (with_reducible refine (math_IsInf.calls x9_12 0 false _ A29.out).mono ?_); rintro e w' ⟨rfl, ⟨nd, rfl⟩⟩; refine ⟨_, rfl, ?_⟩; have p32 : 0 ≤ (0 : Int) := (by omega); have q32 : 0 < a0.size := (by have : (0 : Int) < (a0.size : Int) := sqD; omega); have hx32 : ∀ h : 0 < a0.size, ((a0[0]'h).toNat : Int) = bt a0 0 := bt_at a0 0; clear p32; have qi32 : (0 < (a0.size : Int)) = True := eq_true sqD; replace q32 := eq_true q32) | ((with_reducible refine gate_callee (f := 48) rfl ?_); refine goesL_ (some 62) rfl rfl Tryd.func48 (by kernel_rfl) rfl #[.float .f64 x9_12, .float .f64 (13830554455654793216 : Nat)] rfl sqA ?_; (with_reducible refine (math_Copysign.calls x9_12 (13830554455654793216 : Nat) t351 _ A34.out).mono ?_); rintro e w' ⟨rfl, ⟨nd, rfl⟩⟩; refine ⟨_, rfl, ?_⟩))
      go_ret2
      exact ⟨sqE', sqB⟩
     rw [if_neg c33] at H
     have c33b0 := beq_eq_false_iff_ne.mpr c33
     have c33b1 := bne_iff_ne.mpr c33
     simp only [Option.some.injEq, Prod.mk.injEq] at H
     obtain ⟨rfl, rfl⟩ := H
     go_wp2_with (first | ((with_reducible refine gate_callee (f := 37) rfl ?_); refine goesL_ (some 57) rfl rfl Tryd.func37 (by kernel_rfl) rfl #[.float .f64 x9_12, .int .i64 0] rfl sqA ?_; (with_reducible refine (math_IsInf.calls x9_12 0 false _ A29.out).mono ?_); rintro e w' ⟨rfl, ⟨nd, rfl⟩⟩; refine ⟨_, rfl, ?_⟩; have p32 : 0 ≤ (0 : Int) := (by omega); have q32 : 0 < a0.size := (by have : (0 : Int) < (a0.size : Int) := sqD; omega); have hx32 : ∀ h : 0 < a0.size, ((a0[0]'h).toNat : Int) = bt a0 0 := bt_at a0 0; clear p32; have qi32 : (0 < (a0.size : Int)) = True := eq_true sqD; replace q32 := eq_true q32))
     go_ret2
     exact ⟨sqE', sqB⟩

-- NOT PRINTED: function 104 (strconv_small)

-- NOT PRINTED: function 111 (strconv_log10Pow2)

-- NOT PRINTED: function 112 (bits_Len64)

-- NOT PRINTED: function 113 (strconv_bool2_int)

-- NOT PRINTED: function 105 (strconv_numDigits)

-- NOT PRINTED: function 106 (strconv_formatBase10)

-- NOT PRINTED: function 114 (strconv_isPowerOfTwo)

-- NOT PRINTED: function 116 (bits_TrailingZeros32)

-- NOT PRINTED: function 117 (bits_TrailingZeros64)

-- NOT PRINTED: function 115 (bits_TrailingZeros)

-- NOT PRINTED: function 107 (strconv_formatBits)

-- NOT PRINTED: function 97 (strconv_FormatUint_97)

/-! ### strconv_FormatUint_87: function 87 -/
def strconv_FormatUint_87.f (a0 : Int) (a1 : Int) : Option ByteArray := if (0 ≤ a0 ∧ a0 < 9223372036854775808) ∧ a1 = 10 then some ⟨(Lib.itoa a0).toArray⟩ else none
set_option maxHeartbeats 8000000 in
set_option maxRecDepth 100000 in
theorem strconv_FormatUint_87.calls (a0 : Int) (a1 : Int) (r : ByteArray) (w : World) (htab : Aside0 (Rm.Tab w)) (h : strconv_FormatUint_87.f a0 a1 = some r) :
  Calls Tryd.prog 87 #[.int .u64 a0, .int .i64 a1] w fun e w' => e = .returned (.string r) ∧ Below w.heap.size w w' := by
 unfold strconv_FormatUint_87.f at h
 split at h
 ·rename_i hc
  obtain rfl := Option.some.inj h
  exact hc.2 ▸ Rm.formatUint_calls a0 hc.1.1 hc.1.2 w htab.out
 exact absurd h (by simp)


-- NOT PRINTED: function 108 (strconv_FormatInt)

-- NOT PRINTED: function 98 (strconv_Itoa_98)

/-! ### strconv_Itoa_88: function 88 -/
def strconv_Itoa_88.f (a0 : Int) : Option ByteArray := if -9223372036854775808 ≤ a0 ∧ a0 ≤ 9223372036854775807 then some ⟨(Lib.itoa a0).toArray⟩ else none
set_option maxHeartbeats 8000000 in
set_option maxRecDepth 100000 in
theorem strconv_Itoa_88.calls (a0 : Int) (r : ByteArray) (w : World) (htab : Aside0 (Rm.Tab w)) (h : strconv_Itoa_88.f a0 = some r) :
  Calls Tryd.prog 88 #[.int .i64 a0] w fun e w' => e = .returned (.string r) ∧ Below w.heap.size w w' := by
 unfold strconv_Itoa_88.f at h
 split at h
 ·rename_i hc
  obtain rfl := Option.some.inj h
  exact Rm.itoa_calls a0 hc.1 hc.2 w htab.out
 exact absurd h (by simp)


end Go.Proofs.YtfmjdoofopamkaaDoor.W
