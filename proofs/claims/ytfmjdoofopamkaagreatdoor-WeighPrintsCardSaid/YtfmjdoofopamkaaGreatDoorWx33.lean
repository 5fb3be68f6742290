import Derived.Test.YtfmjdoofopamkaaGreatDoorWx0
import Derived.Test.YtfmjdoofopamkaaGreatDoorWx31
import Derived.Test.YtfmjdoofopamkaaGreatDoorWx32
namespace Go.Proofs.YtfmjdoofopamkaaGreatDoor.W
open Go.RowKit Go.Proofs.YtfmjdoofopamkaaGreatDoorW.PrintWords Go.Proofs.YtfmjdoofopamkaaGreatDoorW.PrintLast Go.Proofs.YtfmjdoofopamkaaGreatDoorW.PrintMore
set_option maxHeartbeats 8000000
set_option maxRecDepth 100000
attribute [local go_sem] max2_int min2_int max_two min_two max_three min_three max_four min_four
set_option linter.unusedVariables false
set_option linter.unusedSimpArgs false
def r2_Print.j0 : Nat → Int → ByteArray → Option (ByteArray)
 | 0, _, _ => none
 | k + 1, x0, x3 => if x0 > 9218868437227405312 then (some (⟨#[110, 97, 110]⟩ : ByteArray)) else (if x0 = 9218868437227405312 then (if x3.size + 3 ≤ 9223372036854775807 then (some (x3 ++ (⟨#[105, 110, 102]⟩ : ByteArray))) else (none)) else (if x0 = 0 then (if x3.size + 1 ≤ 9223372036854775807 then (some (x3 ++ (⟨#[48]⟩ : ByteArray))) else (none)) else ((r2_Shortest.f k x0).bind fun bt827 => ((r2_decimal.f k bt827.1).bind fun t829 => (if x3.size + t829.size ≤ 9223372036854775807 then (if bt827.2 < 0 then (if (x3 ++ t829).size + 2 ≤ 9223372036854775807 then ((r2_decimal.f k (IntKind.u64.wrap (wrap64 (-bt827.2)))).bind fun t830 => (if ((x3 ++ t829) ++ (⟨#[101, 45]⟩ : ByteArray)).size + t830.size ≤ 9223372036854775807 then (some (((x3 ++ t829) ++ (⟨#[101, 45]⟩ : ByteArray)) ++ t830)) else (none))) else (none)) else (if bt827.2 > 0 then (if (x3 ++ t829).size + 1 ≤ 9223372036854775807 then ((r2_decimal.f k (IntKind.u64.wrap (bt827.2))).bind fun t831 => (if ((x3 ++ t829) ++ (⟨#[101]⟩ : ByteArray)).size + t831.size ≤ 9223372036854775807 then (some (((x3 ++ t829) ++ (⟨#[101]⟩ : ByteArray)) ++ t831)) else (none))) else (none)) else (some (x3 ++ t829)))) else (none))))))
def r2_Print.f (k : Nat) (a0 : Int) : Option (ByteArray) := if a0 ≥ 9223372036854775808 then (r2_Print.j0 k (IntKind.u64.wrap (a0 - 9223372036854775808)) (⟨#[45]⟩ : ByteArray)) else (r2_Print.j0 k a0 (⟨#[]⟩ : ByteArray))
theorem r2_Print.mono_l : ∀ k, (∀ y0 y1, LeO (r2_Print.j0 k y0 y1) (r2_Print.j0 (k + 1) y0 y1))
 | 0 => fun _ _ r h => by simp [r2_Print.j0] at h
 | k + 1 => by
  have ih0 := r2_Print.mono_l k
  intro y0 y1
  unfold r2_Print.j0
  repeat' first | (with_reducible first | apply ih0 | apply r2_Shortest.mono | apply r2_decimal.mono | apply LeO.refl | apply LeO.none | refine LeO.ite ?_ ?_ | refine LeO.bind ?_ (fun _ => ?_)) | apply LeO.none | refine LeO.ite ?_ ?_ | refine LeO.bind ?_ (fun _ => ?_)
theorem r2_Print.mono : ∀ a0 k, LeO (r2_Print.f k a0) (r2_Print.f (k + 1) a0) := by
 intro a0 k
 have ih0 := r2_Print.mono_l k
 unfold r2_Print.f
 repeat' first | (with_reducible first | apply ih0 | apply r2_Shortest.mono | apply r2_decimal.mono | apply LeO.refl | apply LeO.none | refine LeO.ite ?_ ?_ | refine LeO.bind ?_ (fun _ => ?_)) | apply LeO.none | refine LeO.ite ?_ ?_ | refine LeO.bind ?_ (fun _ => ?_)
theorem r2_Print.calls (k : Nat) (a0 : Int) (r : ByteArray) (w : World) (h : r2_Print.f k a0 = some r) :
  Calls Tryz.prog 13 #[.int .u64 a0] w fun e w' => e = .returned (.string r) ∧ Below w.heap.size w w' := by
 have HB := Sd.mk (Below.refl w.heap.size w)
 have H : (if a0 ≥ 9223372036854775808 then (r2_Print.j0 k (IntKind.u64.wrap (a0 - 9223372036854775808)) (⟨#[45]⟩ : ByteArray)) else (r2_Print.j0 k a0 (⟨#[]⟩ : ByteArray))) = some r := h
 clear h
 have HC2 := Sd.mk H
 clear H
 go_enter Tryz.func13, Tryz.ntmps13
 go_upto_if 7 with (fail)
 go_cut [0, 3] (fun v0 v3 wc => ∃ (kq : Nat) (x0_1 : Int) (x3_1 : ByteArray), v0 = .int .u64 x0_1 ∧ v3 = .string x3_1 ∧ Sd (r2_Print.j0 kq x0_1 x3_1 = some r) ∧ Sd (kq ≤ k) ∧ Sd (Below w.heap.size w wc))
 case first =>
  have H := HC2.out
  clear HC2
  by_cases c3 : a0 ≥ 9223372036854775808
  ·rw [if_pos c3] at H
   have c3b0 := decide_eq_true c3
   clear c3
   (first | rw [c3b0] | (simp only [i64_w, i32_w]; rw [c3b0]) | skip)
   have H' := Sd.mk H
   clear H
   go_wp2
   go_meet
   case rel => exact ⟨_, (IntKind.u64.wrap (a0 - 9223372036854775808)), ((⟨#[45]⟩ : ByteArray)), sqE, sqE, H', ⟨by first | omega | exact Nat.le_refl _⟩, ⟨sqB⟩⟩
  rw [if_neg c3] at H
  have c3b0 := decide_eq_false c3
  clear c3
  (first | rw [c3b0] | (simp only [i64_w, i32_w]; rw [c3b0]) | skip)
  have H' := Sd.mk H
  clear H
  go_wp2
  go_meet
  case rel => exact ⟨_, (a0), ((⟨#[]⟩ : ByteArray)), sqE, sqE, H', ⟨by first | omega | exact Nat.le_refl _⟩, ⟨sqB⟩⟩
 case rest =>
  clear HC2
  try clear c1
  try clear p2
  try clear c3
  try clear c3b0
  obtain ⟨kq, x0_1, x3_1, rfl, rfl, HA, HJ1, HB⟩ := hcut
  cases kq with
  | zero => exact absurd HA.out (by simp [r2_Print.j0])
  | succ kj1 =>
   have H := HA.out
   clear HA
   simp only [r2_Print.j0] at H
   by_cases c4 : x0_1 > 9218868437227405312
   ·rw [if_pos c4] at H
    have c4b0 := decide_eq_true c4
    clear c4
    obtain rfl := Option.some.inj H
    go_wp2
    go_ret
    exact ⟨sqE', sqB⟩
   rw [if_neg c4] at H
   have c4b0 := decide_eq_false c4
   clear c4
   by_cases c5 : x0_1 = 9218868437227405312
   ·rw [if_pos c5] at H
    have c5b0 := beq_iff_eq.mpr c5
    have c5b1 := bne_eq_false_iff_eq.mpr c5
    clear c5
    by_cases c6 : x3_1.size + 3 ≤ 9223372036854775807
    case neg => rw [if_neg c6] at H; exact absurd H (by simp)
    rw [if_pos c6] at H
    have c6b0 := eq_true c6
    have c6b1 := decide_eq_true c6
    try have c6b2 : (9223372036854775807 < x3_1.size + 3) = False := eq_false (Nat.not_lt.2 c6)
    obtain rfl := Option.some.inj H
    go_wp2
    go_ret
    exact ⟨sqE', sqB⟩
   rw [if_neg c5] at H
   have c5b0 := beq_eq_false_iff_ne.mpr c5
   have c5b1 := bne_iff_ne.mpr c5
   by_cases c7 : x0_1 = 0
   ·rw [if_pos c7] at H
    have c7b0 := beq_iff_eq.mpr c7
    have c7b1 := bne_eq_false_iff_eq.mpr c7
    clear c7
    by_cases c8 : x3_1.size + 1 ≤ 9223372036854775807
    case neg => rw [if_neg c8] at H; exact absurd H (by simp)
    rw [if_pos c8] at H
    have c8b0 := eq_true c8
    have c8b1 := decide_eq_true c8
    try have c8b2 : (9223372036854775807 < x3_1.size + 1) = False := eq_false (Nat.not_lt.2 c8)
    obtain rfl := Option.some.inj H
    go_wp2
    go_ret
    exact ⟨sqE', sqB⟩
   rw [if_neg c7] at H
   have c7b0 := beq_eq_false_iff_ne.mpr c7
   have c7b1 := bne_iff_ne.mpr c7
   obtain ⟨⟨t827, t828⟩, A9, H⟩ := sqO H
   try dsimp only at H
   obtain ⟨t829, A10, H⟩ := sqO H
   try dsimp only at H
   by_cases c11 : x3_1.size + t829.size ≤ 9223372036854775807
   case neg => rw [if_neg c11] at H; exact absurd H (by simp)
   rw [if_pos c11] at H
   have c11b0 := eq_true c11
   have c11b1 := decide_eq_true c11
   try have c11b2 : (9223372036854775807 < x3_1.size + t829.size) = False := eq_false (Nat.not_lt.2 c11)
   by_cases c12 : t828 < 0
   ·rw [if_pos c12] at H
    have c12b0 := decide_eq_true c12
    clear c12
    by_cases c13 : (x3_1 ++ t829).size + 2 ≤ 9223372036854775807
    case neg => rw [if_neg c13] at H; exact absurd H (by simp)
    rw [if_pos c13] at H
    have c13b0 := eq_true c13
    have c13b1 := decide_eq_true c13
    try have c13b2 : (9223372036854775807 < (x3_1 ++ t829).size + 2) = False := eq_false (Nat.not_lt.2 c13)
    have c13b3 : (9223372036854775807 < x3_1.size + t829.size + 2) = False := eq_false (by have h_ := c13; rw [ByteArray.size_append] at h_; omega)
    obtain ⟨t830, A14, H⟩ := sqO H
    try dsimp only at H
    by_cases c15 : ((x3_1 ++ t829) ++ (⟨#[101, 45]⟩ : ByteArray)).size + t830.size ≤ 9223372036854775807
    case neg => rw [if_neg c15] at H; exact absurd H (by simp)
    rw [if_pos c15] at H
    have c15b0 := eq_true c15
    have c15b1 := decide_eq_true c15
    try have c15b2 : (9223372036854775807 < ((x3_1 ++ t829) ++ (⟨#[101, 45]⟩ : ByteArray)).size + t830.size) = False := eq_false (Nat.not_lt.2 c15)
    have c15b3 : (9223372036854775807 < x3_1.size + t829.size + 2 + t830.size) = False := eq_false (by have h_ := c15; have e_ : (⟨#[101, 45]⟩ : ByteArray).size = 2 := rfl; rw [ByteArray.size_append, ByteArray.size_append] at h_; omega)
    obtain rfl := Option.some.inj H
    go_wp2_with (first | ((with_reducible refine gcl (f := 43) rfl ?_); refine gL (some 25) rfl rfl Tryz.func43 (by kernel_rfl) rfl #[.int .u64 x0_1] rfl sqA ?_; (with_reducible refine (r2_Shortest.calls kj1 x0_1 t827 t828 _ A9.out).mono ?_); rintro e w16 ⟨rfl, hb⟩; refine ⟨_, rfl, ?_⟩; have n0_ := Sd.mk (bst sqB hb); clear HB; have HB := n0_; clear n0_; (try clear hb); (try clear hb2); (try clear hk); (try clear hi)) | ((with_reducible refine gcl (f := 44) rfl ?_); refine gL (some 30) rfl rfl Tryz.func44 (by kernel_rfl) rfl #[.int .u64 t827] rfl sqA ?_; (with_reducible refine (r2_decimal.calls kj1 t827 t829 _ A10.out).mono ?_); rintro e w17 ⟨rfl, hb⟩; refine ⟨_, rfl, ?_⟩; have n0_ := Sd.mk (bst sqB hb); clear HB; have HB := n0_; clear n0_; (try clear hb); (try clear hb2); (try clear hk); (try clear hi)) | ((with_reducible refine gcl (f := 44) rfl ?_); refine gL (some 39) rfl rfl Tryz.func44 (by kernel_rfl) rfl #[.int .u64 (IntKind.u64.wrap (wrap64 (-t828)))] rfl sqA ?_; (with_reducible refine (r2_decimal.calls kj1 (IntKind.u64.wrap (wrap64 (-t828))) t830 _ A14.out).mono ?_); rintro e w18 ⟨rfl, hb⟩; refine ⟨_, rfl, ?_⟩; have n0_ := Sd.mk (bst sqB hb); clear HB; have HB := n0_; clear n0_; (try clear hb); (try clear hb2); (try clear hk); (try clear hi)))
    go_ret
    exact ⟨sqE', sqB⟩
   rw [if_neg c12] at H
   have c12b0 := decide_eq_false c12
   clear c12
   by_cases c19 : t828 > 0
   case neg =>
    rw [if_neg c19] at H
    have c19b0 := decide_eq_false c19
    clear c19
    obtain rfl := Option.some.inj H
    go_wp2_with (first | ((with_reducible refine gcl (f := 43) rfl ?_); refine gL (some 25) rfl rfl Tryz.func43 (by kernel_rfl) rfl #[.int .u64 x0_1] rfl sqA ?_; (with_reducible refine (r2_Shortest.calls kj1 x0_1 t827 t828 _ A9.out).mono ?_); rintro e w26 ⟨rfl, hb⟩; refine ⟨_, rfl, ?_⟩; have n0_ := Sd.mk (bst sqB hb); clear HB; have HB := n0_; clear n0_; (try clear hb); (try clear hb2); (try clear hk); (try clear hi)) | ((with_reducible refine gcl (f := 44) rfl ?_); refine gL (some 30) rfl rfl Tryz.func44 (by kernel_rfl) rfl #[.int .u64 t827] rfl sqA ?_; (with_reducible refine (r2_decimal.calls kj1 t827 t829 _ A10.out).mono ?_); rintro e w27 ⟨rfl, hb⟩; refine ⟨_, rfl, ?_⟩; have n0_ := Sd.mk (bst sqB hb); clear HB; have HB := n0_; clear n0_; (try clear hb); (try clear hb2); (try clear hk); (try clear hi)))
    go_ret
    exact ⟨sqE', sqB⟩
   rw [if_pos c19] at H
   have c19b0 := decide_eq_true c19
   clear c19
   by_cases c20 : (x3_1 ++ t829).size + 1 ≤ 9223372036854775807
   case neg => rw [if_neg c20] at H; exact absurd H (by simp)
   rw [if_pos c20] at H
   have c20b0 := eq_true c20
   have c20b1 := decide_eq_true c20
   try have c20b2 : (9223372036854775807 < (x3_1 ++ t829).size + 1) = False := eq_false (Nat.not_lt.2 c20)
   have c20b3 : (9223372036854775807 < x3_1.size + t829.size + 1) = False := eq_false (by have h_ := c20; rw [ByteArray.size_append] at h_; omega)
   obtain ⟨t831, A21, H⟩ := sqO H
   try dsimp only at H
   by_cases c22 : ((x3_1 ++ t829) ++ (⟨#[101]⟩ : ByteArray)).size + t831.size ≤ 9223372036854775807
   case neg => rw [if_neg c22] at H; exact absurd H (by simp)
   rw [if_pos c22] at H
   have c22b0 := eq_true c22
   have c22b1 := decide_eq_true c22
   try have c22b2 : (9223372036854775807 < ((x3_1 ++ t829) ++ (⟨#[101]⟩ : ByteArray)).size + t831.size) = False := eq_false (Nat.not_lt.2 c22)
   have c22b3 : (9223372036854775807 < x3_1.size + t829.size + 1 + t831.size) = False := eq_false (by have h_ := c22; have e_ : (⟨#[101]⟩ : ByteArray).size = 1 := rfl; rw [ByteArray.size_append, ByteArray.size_append] at h_; omega)
   obtain rfl := Option.some.inj H
   go_wp2_with (first | ((with_reducible refine gcl (f := 43) rfl ?_); refine gL (some 25) rfl rfl Tryz.func43 (by kernel_rfl) rfl #[.int .u64 x0_1] rfl sqA ?_; (with_reducible refine (r2_Shortest.calls kj1 x0_1 t827 t828 _ A9.out).mono ?_); rintro e w23 ⟨rfl, hb⟩; refine ⟨_, rfl, ?_⟩; have n0_ := Sd.mk (bst sqB hb); clear HB; have HB := n0_; clear n0_; (try clear hb); (try clear hb2); (try clear hk); (try clear hi)) | ((with_reducible refine gcl (f := 44) rfl ?_); refine gL (some 30) rfl rfl Tryz.func44 (by kernel_rfl) rfl #[.int .u64 t827] rfl sqA ?_; (with_reducible refine (r2_decimal.calls kj1 t827 t829 _ A10.out).mono ?_); rintro e w24 ⟨rfl, hb⟩; refine ⟨_, rfl, ?_⟩; have n0_ := Sd.mk (bst sqB hb); clear HB; have HB := n0_; clear n0_; (try clear hb); (try clear hb2); (try clear hk); (try clear hi)) | ((with_reducible refine gcl (f := 44) rfl ?_); refine gL (some 47) rfl rfl Tryz.func44 (by kernel_rfl) rfl #[.int .u64 (IntKind.u64.wrap (t828))] rfl sqA ?_; (with_reducible refine (r2_decimal.calls kj1 (IntKind.u64.wrap (t828)) t831 _ A21.out).mono ?_); rintro e w25 ⟨rfl, hb⟩; refine ⟨_, rfl, ?_⟩; have n0_ := Sd.mk (bst sqB hb); clear HB; have HB := n0_; clear n0_; (try clear hb); (try clear hb2); (try clear hk); (try clear hi)))
   go_ret
   exact ⟨sqE', sqB⟩
end Go.Proofs.YtfmjdoofopamkaaGreatDoor.W
