import Derived.Test.YtfmjdoofopamkaaGreatDoorWx0
import Derived.Test.YtfmjdoofopamkaaGreatDoorWx1
namespace Go.Proofs.YtfmjdoofopamkaaGreatDoor.W
open Go.RowKit Go.Proofs.YtfmjdoofopamkaaGreatDoorW.PrintWords Go.Proofs.YtfmjdoofopamkaaGreatDoorW.PrintLast Go.Proofs.YtfmjdoofopamkaaGreatDoorW.PrintMore
set_option maxHeartbeats 8000000
set_option maxRecDepth 100000
attribute [local go_sem] max2_int min2_int max_two min_two max_three min_three max_four min_four
set_option linter.unusedVariables false
set_option linter.unusedSimpArgs false
def weigh_read.l0 : Nat → ByteArray → Int → Int → Bool → Int → Int → Option (Int × Int)
 | 0, _, _, _, _, _, _ => none
 | k + 1, x0, x2, x3, x4, x7, x8 => if x8 < x7 then (if 0 ≤ x8 then (if x8 < (x0.size : Int) then (if (bt x0 x8) = 101 then (some (x2, x3)) else (if (bt x0 x8) = 46 then (weigh_read.l0 k x0 x2 x3 true x7 (wrap64 (x8 + 1))) else ((weigh_digit.f (bt x0 x8)).bind fun t104 => (if t104 = true then (if x4 = true then (weigh_read.l0 k x0 (IntKind.u64.wrap ((IntKind.u64.wrap (10 * x2)) + (((bt x0 x8) - 48) % 256))) (wrap64 (x3 + 1)) x4 x7 (wrap64 (x8 + 1))) else (weigh_read.l0 k x0 (IntKind.u64.wrap ((IntKind.u64.wrap (10 * x2)) + (((bt x0 x8) - 48) % 256))) x3 x4 x7 (wrap64 (x8 + 1)))) else (weigh_read.l0 k x0 x2 x3 x4 x7 (wrap64 (x8 + 1))))))) else (none)) else (none)) else (some (x2, x3))
def weigh_read.f (k : Nat) (a0 : ByteArray) : Option (Int × Int) := weigh_read.l0 k a0 0 0 false (a0.size : Int) 0
theorem weigh_read.mono_l : ∀ k, (∀ y0 y1 y2 y3 y4 y5, LeO (weigh_read.l0 k y0 y1 y2 y3 y4 y5) (weigh_read.l0 (k + 1) y0 y1 y2 y3 y4 y5))
 | 0 => fun _ _ _ _ _ _ r h => by simp [weigh_read.l0] at h
 | k + 1 => by
  have ih0 := weigh_read.mono_l k
  intro y0 y1 y2 y3 y4 y5
  unfold weigh_read.l0
  repeat' first | (with_reducible first | apply ih0 | apply LeO.refl | apply LeO.none | refine LeO.ite ?_ ?_ | refine LeO.bind ?_ (fun _ => ?_)) | apply LeO.none | refine LeO.ite ?_ ?_ | refine LeO.bind ?_ (fun _ => ?_)
theorem weigh_read.mono : ∀ a0 k, LeO (weigh_read.f k a0) (weigh_read.f (k + 1) a0) := by
 intro a0 k
 have ih0 := weigh_read.mono_l k
 unfold weigh_read.f
 repeat' first | (with_reducible first | apply ih0 | apply LeO.refl | apply LeO.none | refine LeO.ite ?_ ?_ | refine LeO.bind ?_ (fun _ => ?_)) | apply LeO.none | refine LeO.ite ?_ ?_ | refine LeO.bind ?_ (fun _ => ?_)
theorem weigh_read.calls (k : Nat) (a0 : ByteArray) (r1 : Int) (r2 : Int) (w : World) (h : weigh_read.f k a0 = some (r1, r2)) :
  Calls Tryz.prog 26 #[.string a0] w fun e w' => e = .returned (.tuple #[.int .u64 r1, .int .i64 r2]) ∧ Drawn0 w w' := by
 have H : (weigh_read.l0 k a0 0 0 false (a0.size : Int) 0) = some (r1, r2) := h
 clear h
 have H' := Aside0.mk H
 clear H
 go_enter Tryz.func26, Tryz.ntmps26
 go_wp2
 go_loopg [2, 3, 4, 8] k (fun kq v2 v3 v4 v8 w' => ∃ (x2_1 : Int) (x3_1 : Int) (x4_1 : Bool) (x8_1 : Int), v2 = .int .u64 x2_1 ∧ v3 = .int .i64 x3_1 ∧ v4 = .bool x4_1 ∧ v8 = .int .i64 x8_1 ∧ Aside0 (weigh_read.l0 kq a0 x2_1 x3_1 x4_1 (a0.size : Int) x8_1 = some (r1, r2)) ∧ Aside0 (kq ≤ k) ∧ Drawn0 w w')
 case atStart => exact ⟨(0), (0), (false), (0), sqE, sqE, sqE, sqE, H', ⟨Nat.le_refl _⟩, sqW⟩
 case round =>
  clear H'
  obtain ⟨x2_1, x3_1, x4_1, x8_1, rfl, rfl, rfl, rfl, HA, HK1, ⟨m1, rfl⟩⟩ := hrel
  cases gk with
  | zero => exact absurd HA.out (by simp [weigh_read.l0])
  | succ k1 =>
   have H := HA.out
   clear HA
   simp only [weigh_read.l0] at H
   by_cases c2 : x8_1 < (a0.size : Int)
   case neg =>
    rw [if_neg c2] at H
    have c2b0 := decide_eq_false c2
    clear c2
    simp only [Option.some.injEq, Prod.mk.injEq] at H
    obtain ⟨rfl, rfl⟩ := H
    go_wp2
    go_ret2
    exact ⟨sqE, sqW⟩
   rw [if_pos c2] at H
   have c2b0 := decide_eq_true c2
   clear c2
   by_cases c3 : 0 ≤ x8_1
   case neg => rw [if_neg c3] at H; exact absurd H (by simp)
   rw [if_pos c3] at H
   have c3b0 := decide_eq_true c3
   clear c3
   by_cases c4 : x8_1 < (a0.size : Int)
   case neg => rw [if_neg c4] at H; exact absurd H (by simp)
   rw [if_pos c4] at H
   have c4b0 := decide_eq_true c4
   clear c4
   by_cases c6 : (bt a0 x8_1) = 101
   ·rw [if_pos c6] at H
    have c6b0 := beq_iff_eq.mpr c6
    have c6b1 := bne_eq_false_iff_eq.mpr c6
    clear c6
    simp only [Option.some.injEq, Prod.mk.injEq] at H
    obtain ⟨rfl, rfl⟩ := H
    have p5 : 0 ≤ (x8_1 : Int) := sqD
    have q5 : x8_1 < (a0.size : Int) := sqD
    have hx5 := bt_at a0 x8_1
    replace p5 := eq_true p5
    replace q5 := eq_true q5
    go_wp2
    go_ret2
    exact ⟨sqE, sqW⟩
   rw [if_neg c6] at H
   have c6b0 := beq_eq_false_iff_ne.mpr c6
   have c6b1 := bne_iff_ne.mpr c6
   by_cases c8 : (bt a0 x8_1) = 46
   ·rw [if_pos c8] at H
    have c8b0 := beq_iff_eq.mpr c8
    have c8b1 := bne_eq_false_iff_eq.mpr c8
    clear c8
    have H' := Aside0.mk H
    clear H
    have p5 : 0 ≤ (x8_1 : Int) := sqD
    have q5 : x8_1 < (a0.size : Int) := sqD
    have hx5 := bt_at a0 x8_1
    replace p5 := eq_true p5
    replace q5 := eq_true q5
    have p7 : 0 ≤ (x8_1 : Int) := sqD
    have q7 : x8_1 < (a0.size : Int) := sqD
    have hx7 := bt_at a0 x8_1
    replace p7 := eq_true p7
    replace q7 := eq_true q7
    go_wp2
    go_roundg k1
    case measure => have := HK1.out; omega
    case rel => exact ⟨(x2_1), (x3_1), (true), (wrap64 (x8_1 + 1)), sqE, sqE, sqE, sqE, H', ⟨by have := HK1.out; omega⟩, sqW⟩
   rw [if_neg c8] at H
   have c8b0 := beq_eq_false_iff_ne.mpr c8
   have c8b1 := bne_iff_ne.mpr c8
   obtain ⟨t104, A10, H⟩ := sqO H
   try dsimp only at H
   by_cases c11 : t104 = true
   case neg =>
    replace c11 := Bool.eq_false_iff.mpr c11
    subst c11
    have H1 : (weigh_read.l0 k1 a0 x2_1 x3_1 x4_1 (a0.size : Int) (wrap64 (x8_1 + 1))) = some (r1, r2) := by rw [if_neg (show ¬ (false = true) by decide)] at H; exact H
    clear H
    have H := H1
    clear H1
    have H' := Aside0.mk H
    clear H
    have p5 : 0 ≤ (x8_1 : Int) := sqD
    have q5 : x8_1 < (a0.size : Int) := sqD
    have hx5 := bt_at a0 x8_1
    replace p5 := eq_true p5
    replace q5 := eq_true q5
    have p7 : 0 ≤ (x8_1 : Int) := sqD
    have q7 : x8_1 < (a0.size : Int) := sqD
    have hx7 := bt_at a0 x8_1
    replace p7 := eq_true p7
    replace q7 := eq_true q7
    have p9 : 0 ≤ (x8_1 : Int) := sqD
    have q9 : x8_1 < (a0.size : Int) := sqD
    have hx9 := bt_at a0 x8_1
    replace p9 := eq_true p9
    replace q9 := eq_true q9
    go_wp2_with (first | ((with_reducible refine gate_callee (f := 50) rfl ?_); refine goesL_ (some 27) rfl rfl Tryz.func50 (by kernel_rfl) rfl #[.int .u8 (bt a0 x8_1)] rfl sqA ?_; (with_reducible refine (weigh_digit.calls (bt a0 x8_1) false _ A10.out).mono ?_); rintro e w' ⟨rfl, ⟨nd, rfl⟩⟩; refine ⟨_, rfl, ?_⟩))
    go_roundg k1
    case measure => have := HK1.out; omega
    case rel => exact ⟨(x2_1), (x3_1), (x4_1), (wrap64 (x8_1 + 1)), sqE, sqE, sqE, sqE, H', ⟨by have := HK1.out; omega⟩, sqW⟩
   subst c11
   have H1 : (if x4_1 = true then (weigh_read.l0 k1 a0 (IntKind.u64.wrap ((IntKind.u64.wrap (10 * x2_1)) + (((bt a0 x8_1) - 48) % 256))) (wrap64 (x3_1 + 1)) x4_1 (a0.size : Int) (wrap64 (x8_1 + 1))) else (weigh_read.l0 k1 a0 (IntKind.u64.wrap ((IntKind.u64.wrap (10 * x2_1)) + (((bt a0 x8_1) - 48) % 256))) x3_1 x4_1 (a0.size : Int) (wrap64 (x8_1 + 1)))) = some (r1, r2) := by rw [if_pos rfl] at H; exact H
   clear H
   have H := H1
   clear H1
   by_cases c13 : x4_1 = true
   ·subst c13
    have H1 : (weigh_read.l0 k1 a0 (IntKind.u64.wrap ((IntKind.u64.wrap (10 * x2_1)) + (((bt a0 x8_1) - 48) % 256))) (wrap64 (x3_1 + 1)) true (a0.size : Int) (wrap64 (x8_1 + 1))) = some (r1, r2) := by rw [if_pos rfl] at H; exact H
    clear H
    have H := H1
    clear H1
    have H' := Aside0.mk H
    clear H
    have p5 : 0 ≤ (x8_1 : Int) := sqD
    have q5 : x8_1 < (a0.size : Int) := sqD
    have hx5 := bt_at a0 x8_1
    replace p5 := eq_true p5
    replace q5 := eq_true q5
    have p7 : 0 ≤ (x8_1 : Int) := sqD
    have q7 : x8_1 < (a0.size : Int) := sqD
    have hx7 := bt_at a0 x8_1
    replace p7 := eq_true p7
    replace q7 := eq_true q7
    have p9 : 0 ≤ (x8_1 : Int) := sqD
    have q9 : x8_1 < (a0.size : Int) := sqD
    have hx9 := bt_at a0 x8_1
    replace p9 := eq_true p9
    replace q9 := eq_true q9
    go_wp2_with (first | ((with_reducible refine gate_callee (f := 50) rfl ?_); refine goesL_ (some 27) rfl rfl Tryz.func50 (by kernel_rfl) rfl #[.int .u8 (bt a0 x8_1)] rfl sqA ?_; (with_reducible refine (weigh_digit.calls (bt a0 x8_1) true _ A10.out).mono ?_); rintro e w' ⟨rfl, ⟨nd, rfl⟩⟩; refine ⟨_, rfl, ?_⟩; have p12 : 0 ≤ (x8_1 : Int) := sqD; have q12 : x8_1 < (a0.size : Int) := sqD; have hx12 := bt_at a0 x8_1; replace p12 := eq_true p12; replace q12 := eq_true q12))
    go_roundg k1
    case measure => have := HK1.out; omega
    case rel => exact ⟨(IntKind.u64.wrap ((IntKind.u64.wrap (10 * x2_1)) + (((bt a0 x8_1) - 48) % 256))), (wrap64 (x3_1 + 1)), (true), (wrap64 (x8_1 + 1)), sqE, sqE, sqE, sqE, H', ⟨by have := HK1.out; omega⟩, sqW⟩
   replace c13 := Bool.eq_false_iff.mpr c13
   subst c13
   have H1 : (weigh_read.l0 k1 a0 (IntKind.u64.wrap ((IntKind.u64.wrap (10 * x2_1)) + (((bt a0 x8_1) - 48) % 256))) x3_1 false (a0.size : Int) (wrap64 (x8_1 + 1))) = some (r1, r2) := by rw [if_neg (show ¬ (false = true) by decide)] at H; exact H
   clear H
   have H := H1
   clear H1
   have H' := Aside0.mk H
   clear H
   have p5 : 0 ≤ (x8_1 : Int) := sqD
   have q5 : x8_1 < (a0.size : Int) := sqD
   have hx5 := bt_at a0 x8_1
   replace p5 := eq_true p5
   replace q5 := eq_true q5
   have p7 : 0 ≤ (x8_1 : Int) := sqD
   have q7 : x8_1 < (a0.size : Int) := sqD
   have hx7 := bt_at a0 x8_1
   replace p7 := eq_true p7
   replace q7 := eq_true q7
   have p9 : 0 ≤ (x8_1 : Int) := sqD
   have q9 : x8_1 < (a0.size : Int) := sqD
   have hx9 := bt_at a0 x8_1
   replace p9 := eq_true p9
   replace q9 := eq_true q9
   go_wp2_with (first | ((with_reducible refine gate_callee (f := 50) rfl ?_); refine goesL_ (some 27) rfl rfl Tryz.func50 (by kernel_rfl) rfl #[.int .u8 (bt a0 x8_1)] rfl sqA ?_; (with_reducible refine (weigh_digit.calls (bt a0 x8_1) true _ A10.out).mono ?_); rintro e w' ⟨rfl, ⟨nd, rfl⟩⟩; refine ⟨_, rfl, ?_⟩; have p12 : 0 ≤ (x8_1 : Int) := sqD; have q12 : x8_1 < (a0.size : Int) := sqD; have hx12 := bt_at a0 x8_1; replace p12 := eq_true p12; replace q12 := eq_true q12))
   go_roundg k1
   case measure => have := HK1.out; omega
   case rel => exact ⟨(IntKind.u64.wrap ((IntKind.u64.wrap (10 * x2_1)) + (((bt a0 x8_1) - 48) % 256))), (x3_1), (false), (wrap64 (x8_1 + 1)), sqE, sqE, sqE, sqE, H', ⟨by have := HK1.out; omega⟩, sqW⟩
def bits_Len32.f (a0 : Int) : Option Int := if 0 ≤ a0 ∧ a0 ≤ 4294967295 then some (Lib.bitLen a0.toNat : Nat) else none
theorem bits_Len32.calls (a0 : Int) (r : Int) (w : World) (h : bits_Len32.f a0 = some r) :
  Calls Tryz.prog 86 #[.int .u32 a0] w fun e w' => e = .returned (.int .i64 r) ∧ Drawn0 w w' := by
 unfold bits_Len32.f at h
 by_cases hc : 0 ≤ a0 ∧ a0 ≤ 4294967295
 ·rw [if_pos hc] at h
  obtain rfl := Option.some.inj h
  exact (Rm.len32_calls a0 w hc.1 hc.2).mono fun e w' hh => ⟨hh.1, hh.2 ▸ Drawn0.refl w⟩
 rw [if_neg hc] at h
 exact absurd h (by simp)

def weigh_nat_length.f (l0 : List Int) : Option (Int) := if (l0.length : Int) = 0 then (some 0) else (if 0 ≤ (wrap64 ((l0.length : Int) - 1)) then (if (wrap64 ((l0.length : Int) - 1)) < (l0.length : Int) then ((bits_Len32.f (rd l0 (wrap64 ((l0.length : Int) - 1)))).bind fun t106 => (some (wrap64 ((wrap64 (32 * (wrap64 ((l0.length : Int) - 1)))) + t106)))) else (none)) else (none))
theorem weigh_nat_length.calls (A0 : Option Addr) (c0 : Nat) (l0 : List Int) (r : Int) (w : World) (hr0 : Kd.C (Kd.int .u32) w A0 l0.length l0) (hc0 : l0.length ≤ c0) (h : weigh_nat_length.f l0 = some r) :
  Calls Tryz.prog 51 #[.slice A0 l0.length c0] w fun e w' => e = .returned (.int .i64 r) ∧ Drawn0 w w' := by
 have HR0 := Aside0.mk hr0
 have HC0 := Aside0.mk hc0
 clear hr0 hc0
 have H : (if (l0.length : Int) = 0 then (some 0) else (if 0 ≤ (wrap64 ((l0.length : Int) - 1)) then (if (wrap64 ((l0.length : Int) - 1)) < (l0.length : Int) then ((bits_Len32.f (rd l0 (wrap64 ((l0.length : Int) - 1)))).bind fun t106 => (some (wrap64 ((wrap64 (32 * (wrap64 ((l0.length : Int) - 1)))) + t106)))) else (none)) else (none))) = some r := h
 clear h
 by_cases c2 : (l0.length : Int) = 0
 ·rw [if_pos c2] at H
  have c2b0 := beq_iff_eq.mpr c2
  have c2b1 := bne_eq_false_iff_eq.mpr c2
  clear c2
  obtain rfl := Option.some.inj H
  go_enter Tryz.func51, Tryz.ntmps51
  go_wp2
  go_ret
  exact ⟨sqE, sqW⟩
 rw [if_neg c2] at H
 have c2b0 := beq_eq_false_iff_ne.mpr c2
 have c2b1 := bne_iff_ne.mpr c2
 have c2b2 : ¬ (l0 = []) := fun h_ => c2 (by rw [h_]; rfl)
 obtain ⟨ji3, hji3⟩ : ∃ j_ : Int, (wrap64 ((l0.length : Int) - 1)) = j_ := ⟨_, rfl⟩
 replace H : (if 0 ≤ (ji3) then (if (ji3) < (l0.length : Int) then ((bits_Len32.f (rd l0 (ji3))).bind fun t106 => (some (wrap64 ((wrap64 (32 * (ji3))) + t106)))) else (none)) else (none)) = some r := by first | (rw [hji3] at H; exact H) | (simp only [hji3] at H ⊢; exact H)
 have hji3w : (IntKind.i64.wrap ((l0.length : Int) - 1)) = ji3 := (i64_w _).trans hji3
 by_cases c4 : 0 ≤ (ji3)
 case neg => rw [if_neg c4] at H; exact absurd H (by simp)
 rw [if_pos c4] at H
 have c4b0 := decide_eq_true c4
 clear c4
 by_cases c5 : (ji3) < (l0.length : Int)
 case neg => rw [if_neg c5] at H; exact absurd H (by simp)
 rw [if_pos c5] at H
 have c5b0 := decide_eq_true c5
 clear c5
 obtain ⟨t106, A6, H⟩ := sqO H
 try dsimp only at H
 obtain rfl := Option.some.inj H
 have p105 : 0 ≤ ((ji3) : Int) := sqD
 have q105 : (ji3) < (l0.length : Int) := sqD
 obtain ⟨ad105, e105, hx105_0⟩ := Kd.at_int HR0.out (ji3) p105 q105
 cases e105
 replace p105 := eq_true p105
 replace q105 := eq_true q105
 go_enter Tryz.func51, Tryz.ntmps51
 go_wp2_with (first | ((with_reducible refine gate_callee (f := 86) rfl ?_); refine goesL_ (some 16) rfl rfl Tryz.func86 (by kernel_rfl) rfl #[.int .u32 (rd l0 (ji3))] rfl (by (try simp only [List.map_toArray, List.map_cons, List.map_nil]); first | done | (simp only [hji3]; rfl) | rfl | (simp only [List.length_drop, List.length_take]; rfl)) ?_; (with_reducible refine (bits_Len32.calls (rd l0 (ji3)) t106 _ A6.out).mono ?_); rintro e w' ⟨rfl, ⟨nd, rfl⟩⟩; refine ⟨_, rfl, ?_⟩))
 go_ret
 exact ⟨by first | rfl | (simp; done) | (simp only [← hji3] <;> (first | rfl | simp)) | (simp [*]; done), sqW⟩
def weigh_trim.l0 : Nat → List Int → Option (List Int)
 | 0, _ => none
 | k + 1, x0 => if (x0.length : Int) > 0 then (if 0 ≤ (wrap64 ((x0.length : Int) - 1)) then (if (wrap64 ((x0.length : Int) - 1)) < (x0.length : Int) then (if (rd x0 (wrap64 ((x0.length : Int) - 1))) = 0 then (if (wrap64 ((x0.length : Int) - 1)) ≤ (x0.length : Int) then (weigh_trim.l0 k (x0.take ((wrap64 ((x0.length : Int) - 1)) : Int).toNat)) else (none)) else (some x0)) else (none)) else (none)) else (some x0)
def weigh_trim.f (k : Nat) (l0 : List Int) : Option (List Int) := weigh_trim.l0 k l0
theorem weigh_trim.mono_l : ∀ k, (∀ y0, LeO (weigh_trim.l0 k y0) (weigh_trim.l0 (k + 1) y0))
 | 0 => fun _ r h => by simp [weigh_trim.l0] at h
 | k + 1 => by
  have ih0 := weigh_trim.mono_l k
  intro y0
  unfold weigh_trim.l0
  repeat' first | (with_reducible first | apply ih0 | apply LeO.refl | apply LeO.none | refine LeO.ite ?_ ?_ | refine LeO.bind ?_ (fun _ => ?_)) | apply LeO.none | refine LeO.ite ?_ ?_ | refine LeO.bind ?_ (fun _ => ?_)
theorem weigh_trim.mono : ∀ a0 k, LeO (weigh_trim.f k a0) (weigh_trim.f (k + 1) a0) := by
 intro a0 k
 have ih0 := weigh_trim.mono_l k
 unfold weigh_trim.f
 repeat' first | (with_reducible first | apply ih0 | apply LeO.refl | apply LeO.none | refine LeO.ite ?_ ?_ | refine LeO.bind ?_ (fun _ => ?_)) | apply LeO.none | refine LeO.ite ?_ ?_ | refine LeO.bind ?_ (fun _ => ?_)
theorem weigh_trim.calls (k : Nat) (P0_ : Nat → Prop) (A0 : Option Addr) (c0 : Nat) (l0 : List Int) (r : List Int) (w : World) (hs0 : Kd.V (Kd.int .u32) 83 w w.heap.size (fun k_ => P0_ k_) (.slice A0 l0.length c0) l0) (h : weigh_trim.f k l0 = some r) :
  Calls Tryz.prog 57 #[.slice A0 l0.length c0] w fun e w' => ∃ v0_ : Value, e = .returned (v0_) ∧ Kd.V (Kd.int .u32) 83 w' w.heap.size (fun k_ => (P0_ k_ ∨ w.heap.size ≤ k_)) v0_ r ∧ Below w.heap.size w w' := by
 have HO0 := Aside0.mk (show Kd.V (Kd.int .u32) 83 w w.heap.size (fun k_ => (P0_ k_ ∨ w.heap.size ≤ k_)) (.slice A0 l0.length c0) l0 from Kd.V_mono hs0 (fun k_ hk => .inl hk))
 have HB := Aside0.mk (Below.refl w.heap.size w)
 have H : (weigh_trim.l0 k l0) = some r := h
 clear h
 have H' := Aside0.mk H
 clear H
 go_enter Tryz.func57, Tryz.ntmps57
 go_wp2
 go_loopg [0] k (fun kq v0 w' => ∃ (x0_1 : List Int), Aside0 (weigh_trim.l0 kq x0_1 = some r) ∧ Aside0 (kq ≤ k) ∧ Aside0 (Kd.V (Kd.int .u32) 83 w' w.heap.size (fun k_ => (P0_ k_ ∨ w.heap.size ≤ k_)) v0 x0_1) ∧ Aside0 (Below w.heap.size w w'))
 case atStart => exact ⟨(l0), H', ⟨Nat.le_refl _⟩, ⟨sqV HO0.out⟩, ⟨sqB⟩⟩
 case round =>
  clear H'
  obtain ⟨x0_1, HA, HK1, HO_0, HB⟩ := hrel
  cases gk with
  | zero => exact absurd HA.out (by simp [weigh_trim.l0])
  | succ k1 =>
   have H := HA.out
   clear HA
   simp only [weigh_trim.l0] at H
   by_cases c2 : (x0_1.length : Int) > 0
   case neg =>
    rw [if_neg c2] at H
    have c2b0 := decide_eq_false c2
    have c2b1 : decide (0 < x0_1.length) = false := decide_eq_false (by omega)
    clear c2
    obtain rfl := Option.some.inj H
    obtain ⟨Ao12, co12, eo12⟩ := Kd.V_slice HO_0.out
    subst eo12
    go_wp2
    go_ret
    exact ⟨_, sqE', sqV HO_0.out, sqB⟩
   rw [if_pos c2] at H
   have c2b0 := decide_eq_true c2
   have c2b1 : decide (0 < x0_1.length) = true := decide_eq_true (by omega)
   clear c2
   obtain ⟨ji3, hji3⟩ : ∃ j_ : Int, (wrap64 ((x0_1.length : Int) - 1)) = j_ := ⟨_, rfl⟩
   replace H : (if 0 ≤ (ji3) then (if (ji3) < (x0_1.length : Int) then (if (rd x0_1 (ji3)) = 0 then (if (ji3) ≤ (x0_1.length : Int) then (weigh_trim.l0 k1 (x0_1.take ((ji3) : Int).toNat)) else (none)) else (some x0_1)) else (none)) else (none)) = some r := by first | (rw [hji3] at H; exact H) | (simp only [hji3] at H ⊢; exact H)
   have hji3w : (IntKind.i64.wrap ((x0_1.length : Int) - 1)) = ji3 := (i64_w _).trans hji3
   by_cases c4 : 0 ≤ (ji3)
   case neg => rw [if_neg c4] at H; exact absurd H (by simp)
   rw [if_pos c4] at H
   have c4b0 := decide_eq_true c4
   clear c4
   by_cases c5 : (ji3) < (x0_1.length : Int)
   case neg => rw [if_neg c5] at H; exact absurd H (by simp)
   rw [if_pos c5] at H
   have c5b0 := decide_eq_true c5
   clear c5
   by_cases c6 : (rd x0_1 (ji3)) = 0
   case neg =>
    rw [if_neg c6] at H
    have c6b0 := beq_eq_false_iff_ne.mpr c6
    have c6b1 := bne_iff_ne.mpr c6
    obtain rfl := Option.some.inj H
    obtain ⟨Ao11, co11, eo11⟩ := Kd.V_slice HO_0.out
    subst eo11
    have p107 : 0 ≤ ((ji3) : Int) := sqD
    have q107 : (ji3) < (x0_1.length : Int) := sqD
    obtain ⟨ad107, e107, hx107_0⟩ := Kd.at_int (Kd.V_reads' HO_0.out).2.2 (ji3) p107 q107
    cases e107
    replace p107 := eq_true p107
    replace q107 := eq_true q107
    go_wp2
    go_ret
    exact ⟨_, by first | rfl | (simp [errW_none, errW_some] <;> rfl) | (simp only [← hji3]; first | rfl | (simp [errW_none, errW_some] <;> rfl)) | (simp [*, errW_none, errW_some] <;> rfl), sqV HO_0.out, sqB⟩
   rw [if_pos c6] at H
   have c6b0 := beq_iff_eq.mpr c6
   have c6b1 := bne_eq_false_iff_eq.mpr c6
   clear c6
   have c7b0 := eq_true (sqD : 0 ≤ (ji3))
   by_cases c8 : (ji3) ≤ (x0_1.length : Int)
   case neg => rw [if_neg c8] at H; exact absurd H (by simp)
   rw [if_pos c8] at H
   have c8b0 := eq_true c8
   have c8b1 := decide_eq_true c8
   clear c8
   obtain ⟨y108, hy108⟩ : ∃ y_ : List Int, y_ = (x0_1.take ((ji3) : Int).toNat) := ⟨_, rfl⟩
   replace H : (weigh_trim.l0 k1 y108) = some r := by first | (rw [hy108]; with_reducible exact H) | (have H2_ := (Option.bind_some _ _).symm.trans H; rw [hy108]; with_reducible exact H2_) | (have H2_ := (Option.bind_some _ _).symm.trans H; with_reducible exact H2_) | with_reducible exact H | (rw [hy108]; exact H) | exact H
   have Ny108 := Aside0.mk hy108
   clear hy108
   have H' := Aside0.mk H
   clear H
   obtain ⟨Ao9, co9, eo9⟩ := Kd.V_slice HO_0.out
   subst eo9
   have p107 : 0 ≤ ((ji3) : Int) := sqD
   have q107 : (ji3) < (x0_1.length : Int) := sqD
   obtain ⟨ad107, e107, hx107_0⟩ := Kd.at_int (Kd.V_reads' HO_0.out).2.2 (ji3) p107 q107
   cases e107
   replace p107 := eq_true p107
   replace q107 := eq_true q107
   have q10 : ((ji3) : Int) ≤ ((x0_1.length : Int) : Int) := sqD
   obtain ⟨i010, hi010, _, hsz10, _⟩ := info_parts info83
   have hroom10 : x0_1.length ≤ co9 := (Kd.V_reads' HO_0.out).2.1
   have hC10 : Kd.F (Kd.int .u32) _ _ (some ad107) x0_1.length x0_1 := (Kd.V_at (base := w.heap.size) HO_0.out).2.2
   have hcut10 := cut_to (P := Tryz.prog) 53 83 .i64 Tryz.underlying53 hi010 (some ad107) x0_1.length co9 (ji3) sqD q10 hroom10
   have hr10 := Kd.F_take (m := ((ji3) : Int).toNat) hC10 (by omega)
   have hy10 : y108.length = ((ji3) : Int).toNat := (by rw [Ny108.out, List.length_take]; omega)
   rw [← Ny108.out] at hr10
   rw [← hy10] at hcut10
   have HO112 := Aside0.mk (show Kd.V (Kd.int .u32) 83 _ w.heap.size _ (.slice (some ad107) y108.length co9) y108 from Kd.V_mk (by omega) hr10)
   have HC112 := Aside0.mk (show y108.length ≤ co9 from by omega)
   clear hr10 hC10 hroom10 hi010 hsz10
   have KY10 := Aside0.mk hy10
   clear hy10
   replace q10 := eq_true q10
   go_wp2
   go_roundg k1
   case measure => have := HK1.out; omega
   case rel => exact ⟨(y108), H', ⟨by have := HK1.out; omega⟩, ⟨sqV HO112.out⟩, ⟨sqB⟩⟩
mutual
def weigh_nat_up.j0 : Nat → List Int → Int → Bool → Option (List Int)
 | 0, _, _, _ => none
 | k + 1, x0, x1, x15 => if x15 = true then (some x0) else (if 0 ≤ (wrap64 ((wrap64 ((x0.length : Int) + (wrap64 (Int.tdiv x1 32)))) + 1)) then (if (wrap64 ((wrap64 ((x0.length : Int) + (wrap64 (Int.tdiv x1 32)))) + 1) : Int).toNat ≤ 70368744177664 then (weigh_nat_up.l0 k x1 (List.replicate (wrap64 ((wrap64 ((x0.length : Int) + (wrap64 (Int.tdiv x1 32)))) + 1) : Int).toNat 0) x0 (x0.length : Int) 0) else (none)) else (none))
def weigh_nat_up.l0 : Nat → Int → List Int → List Int → Int → Int → Option (List Int)
 | 0, _, _, _, _, _ => none
 | k + 1, x1, x5, x24, x25, x26 => if x26 < x25 then (if 0 ≤ x26 then (if x26 < (x24.length : Int) then (if 0 ≤ (Int.tmod x1 32) then (if 0 ≤ (wrap64 (x26 + (wrap64 (Int.tdiv x1 32)))) then (if (wrap64 (x26 + (wrap64 (Int.tdiv x1 32)))) < (x5.length : Int) then (if 0 ≤ (wrap64 ((wrap64 (x26 + (wrap64 (Int.tdiv x1 32)))) + 1)) then (if (wrap64 ((wrap64 (x26 + (wrap64 (Int.tdiv x1 32)))) + 1)) < (x5.length : Int) then (weigh_nat_up.l0 k x1 ((x5.set ((wrap64 (x26 + (wrap64 (Int.tdiv x1 32)))) : Int).toNat (Go.bits .or .u32 (rd x5 (wrap64 (x26 + (wrap64 (Int.tdiv x1 32))))) ((shl .u64 (IntKind.u64.wrap (rd x24 x26)) (Int.tmod x1 32)) % 4294967296))).set ((wrap64 ((wrap64 (x26 + (wrap64 (Int.tdiv x1 32)))) + 1)) : Int).toNat (((shl .u64 (IntKind.u64.wrap (rd x24 x26)) (Int.tmod x1 32)) / 4294967296) % 4294967296)) x24 x25 (wrap64 (x26 + 1))) else (none)) else (none)) else (none)) else (none)) else (none)) else (none)) else (none)) else ((weigh_trim.f k x5).bind fun t120 => (some t120))
end
def weigh_nat_up.f (k : Nat) (l0 : List Int) (a1 : Int) : Option (List Int) := if (l0.length : Int) = 0 then (weigh_nat_up.j0 k l0 a1 true) else (weigh_nat_up.j0 k l0 a1 (decide (a1 ≤ 0)))
theorem weigh_nat_up.mono_l : ∀ k, (∀ y0 y1 y2, LeO (weigh_nat_up.j0 k y0 y1 y2) (weigh_nat_up.j0 (k + 1) y0 y1 y2)) ∧ (∀ y0 y1 y2 y3 y4, LeO (weigh_nat_up.l0 k y0 y1 y2 y3 y4) (weigh_nat_up.l0 (k + 1) y0 y1 y2 y3 y4))
 | 0 => ⟨fun _ _ _ r h => by simp [weigh_nat_up.j0] at h, fun _ _ _ _ _ r h => by simp [weigh_nat_up.l0] at h⟩
 | k + 1 => by
  obtain ⟨ih0, ih1⟩ := weigh_nat_up.mono_l k
  refine ⟨?_, ?_⟩
  ·intro y0 y1 y2
   unfold weigh_nat_up.j0
   repeat' first | (with_reducible first | apply ih0 | apply ih1 | apply weigh_trim.mono | apply LeO.refl | apply LeO.none | refine LeO.ite ?_ ?_ | refine LeO.bind ?_ (fun _ => ?_)) | apply LeO.none | refine LeO.ite ?_ ?_ | refine LeO.bind ?_ (fun _ => ?_)
  intro y0 y1 y2 y3 y4
  unfold weigh_nat_up.l0
  repeat' first | (with_reducible first | apply ih0 | apply ih1 | apply weigh_trim.mono | apply LeO.refl | apply LeO.none | refine LeO.ite ?_ ?_ | refine LeO.bind ?_ (fun _ => ?_)) | apply LeO.none | refine LeO.ite ?_ ?_ | refine LeO.bind ?_ (fun _ => ?_)
theorem weigh_nat_up.mono : ∀ a0 a1 k, LeO (weigh_nat_up.f k a0 a1) (weigh_nat_up.f (k + 1) a0 a1) := by
 intro a0 a1 k
 obtain ⟨ih0, ih1⟩ := weigh_nat_up.mono_l k
 unfold weigh_nat_up.f
 repeat' first | (with_reducible first | apply ih0 | apply ih1 | apply weigh_trim.mono | apply LeO.refl | apply LeO.none | refine LeO.ite ?_ ?_ | refine LeO.bind ?_ (fun _ => ?_)) | apply LeO.none | refine LeO.ite ?_ ?_ | refine LeO.bind ?_ (fun _ => ?_)
theorem weigh_nat_up.calls (k : Nat) (P0_ : Nat → Prop) (A0 : Option Addr) (c0 : Nat) (l0 : List Int) (a1 : Int) (r : List Int) (w : World) (hs0 : Kd.V (Kd.int .u32) 83 w w.heap.size (fun k_ => P0_ k_) (.slice A0 l0.length c0) l0) (h : weigh_nat_up.f k l0 a1 = some r) :
  Calls Tryz.prog 52 #[.slice A0 l0.length c0, .int .i64 a1] w fun e w' => ∃ v0_ : Value, e = .returned (v0_) ∧ Kd.V (Kd.int .u32) 83 w' w.heap.size (fun k_ => (P0_ k_ ∨ w.heap.size ≤ k_)) v0_ r ∧ Below w.heap.size w w' := by
 have HO0 := Aside0.mk (show Kd.V (Kd.int .u32) 83 w w.heap.size (fun k_ => (P0_ k_ ∨ w.heap.size ≤ k_)) (.slice A0 l0.length c0) l0 from Kd.V_mono hs0 (fun k_ hk => .inl hk))
 have HB := Aside0.mk (Below.refl w.heap.size w)
 have H : (if (l0.length : Int) = 0 then (weigh_nat_up.j0 k l0 a1 true) else (weigh_nat_up.j0 k l0 a1 (decide (a1 ≤ 0)))) = some r := h
 clear h
 have HC3 := Aside0.mk H
 clear H
 go_enter Tryz.func52, Tryz.ntmps52
 go_upto_region 1 with (fail)
 go_cut [15] (fun v15 wc => ∃ (kq : Nat) (x15_2 : Bool), v15 = .bool x15_2 ∧ Aside0 (weigh_nat_up.j0 kq l0 a1 x15_2 = some r) ∧ Aside0 (kq ≤ k) ∧ Aside0 (Kd.V (Kd.int .u32) 83 wc w.heap.size (fun k_ => (P0_ k_ ∨ w.heap.size ≤ k_)) (.slice A0 l0.length c0) l0) ∧ Aside0 (Below w.heap.size w wc))
 case first =>
  have H := HC3.out
  clear HC3
  by_cases c4 : (l0.length : Int) = 0
  ·rw [if_pos c4] at H
   have c4b0 := beq_iff_eq.mpr c4
   have c4b1 := bne_eq_false_iff_eq.mpr c4
   clear c4
   (first | rw [c4b0] | (simp only [i64_w, i32_w]; rw [c4b0]) | skip)
   have H' := Aside0.mk H
   clear H
   go_wp2
   go_meet
   case rel => exact ⟨_, (true), sqE, H', ⟨by first | omega | exact Nat.le_refl _⟩, ⟨sqV HO0.out⟩, ⟨sqB⟩⟩
  rw [if_neg c4] at H
  have c4b0 := beq_eq_false_iff_ne.mpr c4
  have c4b1 := bne_iff_ne.mpr c4
  have c4b2 : ¬ (l0 = []) := fun h_ => c4 (by rw [h_]; rfl)
  (first | rw [c4b0] | (simp only [i64_w, i32_w]; rw [c4b0]) | skip)
  have H' := Aside0.mk H
  clear H
  go_wp2
  go_meet
  case rel => exact ⟨_, (decide (a1 ≤ 0)), sqE, H', ⟨by first | omega | exact Nat.le_refl _⟩, ⟨sqV HO0.out⟩, ⟨sqB⟩⟩
 case rest =>
  clear HC3
  try clear p2
  try clear c4
  try clear c4b0
  try clear c4b1
  try clear c4b2
  obtain ⟨kq, x15_2, rfl, HA, HJ2, HO_0, HB⟩ := hcut
  cases kq with
  | zero => exact absurd HA.out (by simp [weigh_nat_up.j0])
  | succ kj2 =>
   have H := HA.out
   clear HA
   simp only [weigh_nat_up.j0] at H
   by_cases c5 : x15_2 = true
   ·subst c5
    have H1 : (some l0) = some r := by rw [if_pos rfl] at H; exact H
    clear H
    have H := H1
    clear H1
    obtain rfl := Option.some.inj H
    go_wp2
    go_ret
    exact ⟨_, sqE', sqV HO_0.out, sqB⟩
   replace c5 := Bool.eq_false_iff.mpr c5
   subst c5
   have H1 : (if 0 ≤ (wrap64 ((wrap64 ((l0.length : Int) + (wrap64 (Int.tdiv a1 32)))) + 1)) then (if (wrap64 ((wrap64 ((l0.length : Int) + (wrap64 (Int.tdiv a1 32)))) + 1) : Int).toNat ≤ 70368744177664 then (weigh_nat_up.l0 kj2 a1 (List.replicate (wrap64 ((wrap64 ((l0.length : Int) + (wrap64 (Int.tdiv a1 32)))) + 1) : Int).toNat 0) l0 (l0.length : Int) 0) else (none)) else (none)) = some r := by rw [if_neg (show ¬ (false = true) by decide)] at H; exact H
   clear H
   have H := H1
   clear H1
   obtain ⟨ji6, hji6⟩ : ∃ j_ : Int, (wrap64 ((wrap64 ((l0.length : Int) + (wrap64 (Int.tdiv a1 32)))) + 1)) = j_ := ⟨_, rfl⟩
   replace H : (if 0 ≤ (ji6) then (if (ji6 : Int).toNat ≤ 70368744177664 then (weigh_nat_up.l0 kj2 a1 (List.replicate (ji6 : Int).toNat 0) l0 (l0.length : Int) 0) else (none)) else (none)) = some r := by first | (rw [hji6] at H; exact H) | (simp only [hji6] at H ⊢; exact H)
   have hji6w : (IntKind.i64.wrap ((wrap64 ((l0.length : Int) + (wrap64 (Int.tdiv a1 32)))) + 1)) = ji6 := (i64_w _).trans hji6
   by_cases c7 : 0 ≤ (ji6)
   case neg => rw [if_neg c7] at H; exact absurd H (by simp)
   rw [if_pos c7] at H
   have c7b0 := eq_true c7
   have c7b1 := decide_eq_true c7
   clear c7
   by_cases c8 : (ji6 : Int).toNat ≤ 70368744177664
   case neg => rw [if_neg c8] at H; exact absurd H (by simp)
   rw [if_pos c8] at H
   have c8b0 := eq_true c8
   have c8b1 := decide_eq_true c8
   clear c8
   obtain ⟨y113, hy113⟩ : ∃ y_ : List Int, y_ = (List.replicate (ji6 : Int).toNat 0) := ⟨_, rfl⟩
   replace H : (weigh_nat_up.l0 kj2 a1 y113 l0 (l0.length : Int) 0) = some r := by first | (rw [hy113]; with_reducible exact H) | (have H2_ := (Option.bind_some _ _).symm.trans H; rw [hy113]; with_reducible exact H2_) | (have H2_ := (Option.bind_some _ _).symm.trans H; with_reducible exact H2_) | with_reducible exact H | (rw [hy113]; exact H) | exact H
   have Ny113 := Aside0.mk hy113
   clear hy113
   have H' := Aside0.mk H
   clear H
   go_wp2_with (first | ((with_reducible refine gate_dst (N := 23) rfl ?_); refine Kd.R_make (Kd.int .u32) _ 83 rfl (N := 23) rfl 53 _ _ rfl ji6 rfl rfl Tryz.underlying53 (.int .u32 0) 4 info83 rfl (by decide) (by omega) 0 (ok := fun _ => True) (okp := fun _ => True) rfl (fun _ hk => hk) trivial sqD (Nat.le_trans (Nat.mul_le_mul_right _ (sqD : ji6.toNat ≤ 70368744177664)) (by omega)) (Below.refl _ _) (Nat.le_refl _) ?_; intro v114 w9 ho10 hb hg_ hnew_; clear hg_ hnew_; (first | rw [← Ny113.out] at ho10 | (simp only [Int.reduceToNat] at ho10; rw [← Ny113.out] at ho10)); have n0_ := Aside0.mk (Kd.V_elder' (sqV HO_0.out) (Kd.R_base ho10) hb); have n1_ := Aside0.mk (Kd.R_lower (Kd.R_newM (M := fun k_ => (w.heap.size ≤ k_)) ho10 (below_size sqB) (fun k_ h_ => h_)) (below_size sqB)); have n2_ := Aside0.mk (below_step sqB hb); clear HO_0; clear HB; have HO_0 := n0_; have HO115 := n1_; have HB := n2_; clear n0_ n1_ n2_; clear hb ho10))
   try simp only [Act.put, List.setIfInBounds_toArray, List.set_cons_zero, List.set_cons_succ]
   go_loopg [26] kj2 (fun kq v26 w' => ∃ (x5_2 : List Int) (x26_2 : Int), v26 = .int .i64 x26_2 ∧ Aside0 (weigh_nat_up.l0 kq a1 x5_2 l0 (l0.length : Int) x26_2 = some r) ∧ Aside0 (kq ≤ kj2) ∧ Aside0 (Kd.R (Kd.int .u32) 83 w' w.heap.size (fun k_ => (w.heap.size ≤ k_)) v114 x5_2) ∧ Aside0 (Kd.V (Kd.int .u32) 83 w' w.heap.size (fun k_ => (P0_ k_ ∨ w.heap.size ≤ k_) ∧ some k_ ≠ (v114 : Value).ownBlock) (.slice A0 l0.length c0) l0) ∧ Aside0 (Below w.heap.size w w'))
   case atStart => exact ⟨(y113), (0), sqE, H', ⟨Nat.le_refl _⟩, ⟨by (with_reducible repeat (first | apply Kd.R_alloc | apply Kd.R_drewN | apply Kd.R_drew)); exact Kd.R_mono HO115.out (fun _ hk => hk.1)⟩, ⟨sqV HO_0.out⟩, ⟨sqB⟩⟩
   case round =>
    clear H'
    try clear p2
    try clear c4
    try clear c4b0
    try clear c4b1
    try clear c4b2
    try clear c5
    try clear p6
    try clear c7
    try clear c7b0
    try clear c7b1
    try clear c8
    try clear c8b0
    try clear c8b1
    try clear p2
    obtain ⟨x5_2, x26_2, rfl, HA, HK2, HO_5, HO_24, HB⟩ := hrel
    cases gk with
    | zero => exact absurd HA.out (by simp [weigh_nat_up.l0])
    | succ k2 =>
     have H := HA.out
     clear HA
     simp only [weigh_nat_up.l0] at H
     by_cases c11 : x26_2 < (l0.length : Int)
     case neg =>
      rw [if_neg c11] at H
      have c11b0 := decide_eq_false c11
      clear c11
      obtain ⟨t120, A30, H⟩ := sqO H
      try dsimp only at H
      obtain rfl := Option.some.inj H
      obtain ⟨Ao31, co31, eo31⟩ := Kd.R_slice HO_5.out
      subst eo31
      go_wp2_with (first | ((with_reducible refine gate_callee (f := 57) rfl ?_); refine goesL_ (some 64) rfl rfl Tryz.func57 (by kernel_rfl) rfl #[.slice Ao31 x5_2.length co31] rfl sqA ?_; (with_reducible refine (weigh_trim.calls k2 (fun k_ => some k_ = (.slice Ao31 x5_2.length co31 : Value).ownBlock) _ _ x5_2 t120 _ ?side1 A30.out).mono ?_); (case side1 => exact Kd.R_V (Kd.R_tight rfl (HO_5.out))); rintro e w32 ⟨v121, rfl, ho0, hb⟩; refine ⟨_, rfl, ?_⟩; have n0_ := Aside0.mk (Kd.R_below (sqR HO_5.out) hb); have n1_ := Aside0.mk (Kd.V_below (sqV HO_24.out) hb); have n2_ := Aside0.mk (Kd.V_lower (Kd.V_mono (ok' := fun k_ => (P0_ k_ ∨ w.heap.size ≤ k_)) ho0 (fun k_ hk_ => Or.elim hk_ (fun hs_ => (.inr (((HO_5.out).1 k_ hs_.symm)))) (fun hn_ => (.inr (Nat.le_trans (below_size sqB) hn_))))) (below_size sqB)); have n3_ := Aside0.mk (below_step sqB hb); clear HO_5; clear HO_24; clear HB; have HO_5 := n0_; have HO_24 := n1_; have HO122 := n2_; have HB := n3_; clear n0_ n1_ n2_ n3_; (try clear hb); (try clear hb2); (try clear hk); (try clear hi); (try clear ho0)))
      go_ret
      exact ⟨_, by first | rfl | (simp [errW_none, errW_some] <;> rfl) | (simp only [← hji6]; first | rfl | (simp [errW_none, errW_some] <;> rfl)) | (simp [*, errW_none, errW_some] <;> rfl), sqV HO122.out, sqB⟩
     rw [if_pos c11] at H
     have c11b0 := decide_eq_true c11
     clear c11
     by_cases c12 : 0 ≤ x26_2
     case neg => rw [if_neg c12] at H; exact absurd H (by simp)
     rw [if_pos c12] at H
     have c12b0 := decide_eq_true c12
     clear c12
     by_cases c13 : x26_2 < (l0.length : Int)
     case neg => rw [if_neg c13] at H; exact absurd H (by simp)
     rw [if_pos c13] at H
     have c13b0 := decide_eq_true c13
     clear c13
     obtain ⟨ji14, hji14⟩ : ∃ j_ : Int, (Int.tmod a1 32) = j_ := ⟨_, rfl⟩
     replace H : (if 0 ≤ (ji14) then (if 0 ≤ (wrap64 (x26_2 + (wrap64 (Int.tdiv a1 32)))) then (if (wrap64 (x26_2 + (wrap64 (Int.tdiv a1 32)))) < (x5_2.length : Int) then (if 0 ≤ (wrap64 ((wrap64 (x26_2 + (wrap64 (Int.tdiv a1 32)))) + 1)) then (if (wrap64 ((wrap64 (x26_2 + (wrap64 (Int.tdiv a1 32)))) + 1)) < (x5_2.length : Int) then (weigh_nat_up.l0 k2 a1 ((x5_2.set ((wrap64 (x26_2 + (wrap64 (Int.tdiv a1 32)))) : Int).toNat (Go.bits .or .u32 (rd x5_2 (wrap64 (x26_2 + (wrap64 (Int.tdiv a1 32))))) ((shl .u64 (IntKind.u64.wrap (rd l0 x26_2)) (ji14)) % 4294967296))).set ((wrap64 ((wrap64 (x26_2 + (wrap64 (Int.tdiv a1 32)))) + 1)) : Int).toNat (((shl .u64 (IntKind.u64.wrap (rd l0 x26_2)) (ji14)) / 4294967296) % 4294967296)) l0 (l0.length : Int) (wrap64 (x26_2 + 1))) else (none)) else (none)) else (none)) else (none)) else (none)) = some r := by first | (rw [hji14] at H; exact H) | (simp only [hji14] at H ⊢; exact H)
     by_cases c15 : 0 ≤ (ji14)
     case neg => rw [if_neg c15] at H; exact absurd H (by simp)
     rw [if_pos c15] at H
     have c15b0 := eq_true c15
     have c15b1 := decide_eq_true c15
     clear c15
     obtain ⟨ji16, hji16⟩ : ∃ j_ : Int, (shl .u64 (IntKind.u64.wrap (rd l0 x26_2)) (ji14)) = j_ := ⟨_, rfl⟩
     replace H : (if 0 ≤ (wrap64 (x26_2 + (wrap64 (Int.tdiv a1 32)))) then (if (wrap64 (x26_2 + (wrap64 (Int.tdiv a1 32)))) < (x5_2.length : Int) then (if 0 ≤ (wrap64 ((wrap64 (x26_2 + (wrap64 (Int.tdiv a1 32)))) + 1)) then (if (wrap64 ((wrap64 (x26_2 + (wrap64 (Int.tdiv a1 32)))) + 1)) < (x5_2.length : Int) then (weigh_nat_up.l0 k2 a1 ((x5_2.set ((wrap64 (x26_2 + (wrap64 (Int.tdiv a1 32)))) : Int).toNat (Go.bits .or .u32 (rd x5_2 (wrap64 (x26_2 + (wrap64 (Int.tdiv a1 32))))) ((ji16) % 4294967296))).set ((wrap64 ((wrap64 (x26_2 + (wrap64 (Int.tdiv a1 32)))) + 1)) : Int).toNat (((ji16) / 4294967296) % 4294967296)) l0 (l0.length : Int) (wrap64 (x26_2 + 1))) else (none)) else (none)) else (none)) else (none)) = some r := by first | (rw [hji16] at H; exact H) | (simp only [hji16] at H ⊢; exact H)
     have hji16_ : (IntKind.u64.wrap ((IntKind.u64.wrap (rd l0 x26_2)) * 2 ^ min (ji14).toNat 64)) = ji16 := hji16
     have hji16z : (ji14) ≤ 64 → (IntKind.u64.wrap ((IntKind.u64.wrap (rd l0 x26_2)) * 2 ^ (ji14).toNat)) = ji16 := shl_small hji16
     obtain ⟨ji17, hji17⟩ : ∃ j_ : Int, (wrap64 (x26_2 + (wrap64 (Int.tdiv a1 32)))) = j_ := ⟨_, rfl⟩
     replace H : (if 0 ≤ (ji17) then (if (ji17) < (x5_2.length : Int) then (if 0 ≤ (wrap64 ((ji17) + 1)) then (if (wrap64 ((ji17) + 1)) < (x5_2.length : Int) then (weigh_nat_up.l0 k2 a1 ((x5_2.set ((ji17) : Int).toNat (Go.bits .or .u32 (rd x5_2 (ji17)) ((ji16) % 4294967296))).set ((wrap64 ((ji17) + 1)) : Int).toNat (((ji16) / 4294967296) % 4294967296)) l0 (l0.length : Int) (wrap64 (x26_2 + 1))) else (none)) else (none)) else (none)) else (none)) = some r := by first | (rw [hji17] at H; exact H) | (simp only [hji17] at H ⊢; exact H)
     have hji17w : (IntKind.i64.wrap (x26_2 + (wrap64 (Int.tdiv a1 32)))) = ji17 := (i64_w _).trans hji17
     by_cases c18 : 0 ≤ (ji17)
     case neg => rw [if_neg c18] at H; exact absurd H (by simp)
     rw [if_pos c18] at H
     have c18b0 := decide_eq_true c18
     clear c18
     by_cases c19 : (ji17) < (x5_2.length : Int)
     case neg => rw [if_neg c19] at H; exact absurd H (by simp)
     rw [if_pos c19] at H
     have c19b0 := decide_eq_true c19
     clear c19
     obtain ⟨y118, hy118⟩ : ∃ y_ : List Int, y_ = (x5_2.set ((ji17) : Int).toNat (Go.bits .or .u32 (rd x5_2 (ji17)) ((ji16) % 4294967296))) := ⟨_, rfl⟩
     replace H : (if 0 ≤ (wrap64 ((ji17) + 1)) then (if (wrap64 ((ji17) + 1)) < (x5_2.length : Int) then (weigh_nat_up.l0 k2 a1 (y118.set ((wrap64 ((ji17) + 1)) : Int).toNat (((ji16) / 4294967296) % 4294967296)) l0 (l0.length : Int) (wrap64 (x26_2 + 1))) else (none)) else (none)) = some r := by first | (rw [hy118]; with_reducible exact H) | (have H2_ := (Option.bind_some _ _).symm.trans H; rw [hy118]; with_reducible exact H2_) | (have H2_ := (Option.bind_some _ _).symm.trans H; with_reducible exact H2_) | with_reducible exact H | (rw [hy118]; exact H) | exact H
     have Ny118 := Aside0.mk hy118
     clear hy118
     obtain ⟨ji21, hji21⟩ : ∃ j_ : Int, (wrap64 ((ji17) + 1)) = j_ := ⟨_, rfl⟩
     replace H : (if 0 ≤ (ji21) then (if (ji21) < (x5_2.length : Int) then (weigh_nat_up.l0 k2 a1 (y118.set ((ji21) : Int).toNat (((ji16) / 4294967296) % 4294967296)) l0 (l0.length : Int) (wrap64 (x26_2 + 1))) else (none)) else (none)) = some r := by first | (rw [hji21] at H; exact H) | (simp only [hji21] at H ⊢; exact H)
     have hji21w : (IntKind.i64.wrap ((ji17) + 1)) = ji21 := (i64_w _).trans hji21
     by_cases c22 : 0 ≤ (ji21)
     case neg => rw [if_neg c22] at H; exact absurd H (by simp)
     rw [if_pos c22] at H
     have c22b0 := decide_eq_true c22
     clear c22
     by_cases c23 : (ji21) < (x5_2.length : Int)
     case neg => rw [if_neg c23] at H; exact absurd H (by simp)
     rw [if_pos c23] at H
     have c23b0 := decide_eq_true c23
     clear c23
     obtain ⟨y119, hy119⟩ : ∃ y_ : List Int, y_ = (y118.set ((ji21) : Int).toNat (((ji16) / 4294967296) % 4294967296)) := ⟨_, rfl⟩
     replace H : (weigh_nat_up.l0 k2 a1 y119 l0 (l0.length : Int) (wrap64 (x26_2 + 1))) = some r := by first | (rw [hy119]; with_reducible exact H) | (have H2_ := (Option.bind_some _ _).symm.trans H; rw [hy119]; with_reducible exact H2_) | (have H2_ := (Option.bind_some _ _).symm.trans H; with_reducible exact H2_) | with_reducible exact H | (rw [hy119]; exact H) | exact H
     have Ny119 := Aside0.mk hy119
     clear hy119
     have H' := Aside0.mk H
     clear H
     have p116 : 0 ≤ (x26_2 : Int) := sqD
     have q116 : x26_2 < (l0.length : Int) := sqD
     obtain ⟨ad116, e116, hx116_0⟩ := Kd.at_int (Kd.V_reads' HO_24.out).2.2 x26_2 p116 q116
     cases e116
     replace p116 := eq_true p116
     replace q116 := eq_true q116
     obtain ⟨Ao25, co25, eo25⟩ := Kd.R_slice HO_5.out
     subst eo25
     have p117 : 0 ≤ ((ji17) : Int) := sqD
     have q117 : (ji17) < (x5_2.length : Int) := sqD
     obtain ⟨ad117, e117, hx117_0⟩ := Kd.at_int (Kd.R_reads' HO_5.out).2.2 (ji17) p117 q117
     cases e117
     replace p117 := eq_true p117
     replace q117 := eq_true q117
     have p20 : 0 ≤ ((ji17) : Int) := sqD
     have q20 : ((ji17) : Int) < ((x5_2.length : Int) : Int) := sqD
     obtain ⟨go20, co20, eo20, gb20, gl20, cl20, HG20⟩ := Kd.R_form HO_5.out (by omega)
     (first | cases eo20 | (injection eo20 with ea_ en_ ec_; (first | subst ea_ | (injection ea_ with ea_; subst ea_)); subst ec_; clear en_))
     have GB20 := Aside0.mk gb20
     have GG20 := Aside0.mk HG20
     clear gb20 gl20 HG20
     (first | simp only [add_plain] at hx117_0 | skip)
     obtain ⟨hx20_0, hf20_0⟩ := Kd.R_celln 0 HO_5.out ((ji17) : Int) p20 q20
     replace p20 := eq_true p20
     replace q20 := eq_true q20
     have HP26 := Kd.R_putg HO_5.out ((ji17) : Int) (Go.bits .or .u32 (rd x5_2 (ji17)) ((ji16) % 4294967296))
     go_wp2_with (first | ((with_reducible refine gate_store (t := 83) (p := 51) rfl ?_); refine store_event (t := 83) (p := 51) (v := ?vo_w27) (w1 := (wr.setCell ⟨go20, ((ji17) : Int).toNat, none⟩ (.int .u32 (Go.bits .or .u32 (rd x5_2 (ji17)) ((ji16) % 4294967296))))) ?hg ?ho ?hn ?hr ?_; (case ho => rfl); (case hg => rfl); (case hn => rfl); (case hr => first | (go_simp; done) | (go_simp; rfl)); intro w27 hw; have hg : wr.grownBy w27 (some go20) := (by rw [hw]; exact HP26.2); have hp_ : Kd.R (Kd.int .u32) 83 w27 w.heap.size (fun k_ => (w.heap.size ≤ k_)) (.slice (some ⟨go20, 0, none⟩) x5_2.length co25) y118 := (by rw [hw, Ny118.out]; exact HP26.1); clear HP26; have n0_ := Aside0.mk (hp_); have n1_ := Aside0.mk (Kd.V_afterv (v := (.slice (some ⟨go20, 0, none⟩) x5_2.length co25)) (v1 := (.slice (some ⟨go20, 0, none⟩) x5_2.length co25)) (ok := (fun k_ => (P0_ k_ ∨ w.heap.size ≤ k_))) (sqV HO_24.out) hg (.inl rfl)); have n2_ := Aside0.mk ((by rw [hw]; exact below_set (HB.out) GB20.out : Below w.heap.size w w27)); clear HO_5; clear HO_24; clear HB; have HO_5 := n0_; have HO_24 := n1_; have HB := n2_; clear n0_ n1_ n2_; clear hg hw hp_; have p24 : 0 ≤ ((ji21) : Int) := sqD; have q24 : ((ji21) : Int) < ((x5_2.length : Int) : Int) := sqD; obtain ⟨hx24_0, hf24_0⟩ := Kd.R_celln 0 HO_5.out ((ji21) : Int) p24 q24; replace p24 := eq_true p24; replace q24 := eq_true q24; obtain ⟨hy28_, hz28_⟩ := Kd.R_celln 0 HO_5.out ((ji21) : Int) sqD sqD; have HP28 := Kd.R_putg HO_5.out ((ji21) : Int) (((ji16) / 4294967296) % 4294967296)) | ((with_reducible refine gate_store (t := 83) (p := 61) rfl ?_); refine store_event (t := 83) (p := 61) (v := ?vo_w29) (w1 := (w27.setCell ⟨go20, ((ji21) : Int).toNat, none⟩ (.int .u32 (((ji16) / 4294967296) % 4294967296)))) ?hg ?ho ?hn ?hr ?_; (case ho => rfl); (case hg => rfl); (case hn => rfl); (case hr => first | (go_simp; done) | (go_simp; rfl)); intro w29 hw; have hg : w27.grownBy w29 (some go20) := (by rw [hw]; exact HP28.2); have hp_ : Kd.R (Kd.int .u32) 83 w29 w.heap.size (fun k_ => (w.heap.size ≤ k_)) (.slice (some ⟨go20, 0, none⟩) x5_2.length co25) y119 := (by rw [hw, Ny119.out]; exact HP28.1); clear HP28; have n0_ := Aside0.mk (hp_); have n1_ := Aside0.mk (Kd.V_afterv (v := (.slice (some ⟨go20, 0, none⟩) x5_2.length co25)) (v1 := (.slice (some ⟨go20, 0, none⟩) x5_2.length co25)) (ok := (fun k_ => (P0_ k_ ∨ w.heap.size ≤ k_))) (sqV HO_24.out) hg (.inl rfl)); have n2_ := Aside0.mk ((by rw [hw]; exact below_set (HB.out) GB20.out : Below w.heap.size w w29)); clear HO_5; clear HO_24; clear HB; have HO_5 := n0_; have HO_24 := n1_; have HB := n2_; clear n0_ n1_ n2_; clear hg hw hp_))
     go_roundg k2
     case measure => have := HJ2.out; have := HK2.out; omega
     case rel => exact ⟨(y119), (wrap64 (x26_2 + 1)), sqE, H', ⟨by have := HJ2.out; have := HK2.out; omega⟩, ⟨sqR HO_5.out⟩, ⟨sqV HO_24.out⟩, ⟨sqB⟩⟩
end Go.Proofs.YtfmjdoofopamkaaGreatDoor.W
