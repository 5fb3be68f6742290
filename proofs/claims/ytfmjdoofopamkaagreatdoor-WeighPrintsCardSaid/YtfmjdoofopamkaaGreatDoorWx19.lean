import Derived.Test.YtfmjdoofopamkaaGreatDoorWx0
import Derived.Test.YtfmjdoofopamkaaGreatDoorWx4
import Derived.Test.YtfmjdoofopamkaaGreatDoorWx17
import Derived.Test.YtfmjdoofopamkaaGreatDoorWx18
namespace Go.Proofs.YtfmjdoofopamkaaGreatDoor.W
open Go.RowKit Go.Proofs.YtfmjdoofopamkaaGreatDoorW.PrintWords Go.Proofs.YtfmjdoofopamkaaGreatDoorW.PrintLast Go.Proofs.YtfmjdoofopamkaaGreatDoorW.PrintMore
set_option maxHeartbeats 8000000
set_option maxRecDepth 100000
attribute [local go_sem] max2_int min2_int max_two min_two max_three min_three max_four min_four
set_option linter.unusedVariables false
set_option linter.unusedSimpArgs false
mutual
def w2_Print.j0 : Nat → Nat → ByteArray → Option (ByteArray)
 | 0, _, _ => none
 | k + 1, x0, x3 => if (FloatKind.f64.format.order x0 x0 != some .eq) = true then (some (⟨#[110, 97, 110]⟩ : ByteArray)) else ((math_IsInf.f x0 1).bind fun t580 => (if t580 = true then (if x3.size + 3 ≤ 9223372036854775807 then (some (x3 ++ (⟨#[105, 110, 102]⟩ : ByteArray))) else (none)) else (if (FloatKind.f64.format.order x0 (0 : Nat) == some .eq) = true then (if x3.size + 1 ≤ 9223372036854775807 then (some (x3 ++ (⟨#[48]⟩ : ByteArray))) else (none)) else ((math_Log10.f x0).bind fun t581 => ((math_Floor.f t581).bind fun t582 => ((floatToIntVal .f64 t582 .i64).bind fun t583 => (w2_Print.l0 k x0 x3 (wrap64 (t583 - 2)))))))))
def w2_Print.l0 : Nat → Nat → ByteArray → Int → Option (ByteArray)
 | 0, _, _, _ => none
 | k + 1, x0, x3, x4 => (w2_scaled.f k x0 (wrap64 (x4 + 1))).bind fun t584 => (if t584 > 0 then (w2_Print.l0 k x0 x3 (wrap64 (x4 + 1))) else (w2_Print.l1 k x0 x3 x4 1))
def w2_Print.l1 : Nat → Nat → ByteArray → Int → Int → Option (ByteArray)
 | 0, _, _, _, _ => none
 | k + 1, x0, x3, x4, x5 => (w2_nearest.f k x0 (wrap64 ((wrap64 (x4 - x5)) + 1))).bind fun bt585 => (if bt585.2 = true then (if x3.size + bt585.1.size ≤ 9223372036854775807 then (some (x3 ++ bt585.1)) else (none)) else (w2_Print.l1 k x0 x3 x4 (wrap64 (x5 + 1))))
end
def w2_Print.f (k : Nat) (a0 : Nat) : Option (ByteArray) := (math_Signbit.f a0).bind fun t579 => (if t579 = true then (w2_Print.j0 k (Op.negFloat .f64 a0) (⟨#[45]⟩ : ByteArray)) else (w2_Print.j0 k a0 (⟨#[]⟩ : ByteArray)))
theorem w2_Print.mono_l : ∀ k, (∀ y0 y1, LeO (w2_Print.j0 k y0 y1) (w2_Print.j0 (k + 1) y0 y1)) ∧ (∀ y0 y1 y2, LeO (w2_Print.l0 k y0 y1 y2) (w2_Print.l0 (k + 1) y0 y1 y2)) ∧ (∀ y0 y1 y2 y3, LeO (w2_Print.l1 k y0 y1 y2 y3) (w2_Print.l1 (k + 1) y0 y1 y2 y3))
 | 0 => ⟨fun _ _ r h => by simp [w2_Print.j0] at h, fun _ _ _ r h => by simp [w2_Print.l0] at h, fun _ _ _ _ r h => by simp [w2_Print.l1] at h⟩
 | k + 1 => by
  obtain ⟨ih0, ih1, ih2⟩ := w2_Print.mono_l k
  refine ⟨?_, ?_, ?_⟩
  ·intro y0 y1
   unfold w2_Print.j0
   repeat' first | (with_reducible first | apply ih0 | apply ih1 | apply ih2 | apply w2_nearest.mono | apply w2_scaled.mono | apply LeO.refl | apply LeO.none | refine LeO.ite ?_ ?_ | refine LeO.bind ?_ (fun _ => ?_)) | apply LeO.none | refine LeO.ite ?_ ?_ | refine LeO.bind ?_ (fun _ => ?_)
  ·intro y0 y1 y2
   unfold w2_Print.l0
   repeat' first | (with_reducible first | apply ih0 | apply ih1 | apply ih2 | apply w2_nearest.mono | apply w2_scaled.mono | apply LeO.refl | apply LeO.none | refine LeO.ite ?_ ?_ | refine LeO.bind ?_ (fun _ => ?_)) | apply LeO.none | refine LeO.ite ?_ ?_ | refine LeO.bind ?_ (fun _ => ?_)
  intro y0 y1 y2 y3
  unfold w2_Print.l1
  repeat' first | (with_reducible first | apply ih0 | apply ih1 | apply ih2 | apply w2_nearest.mono | apply w2_scaled.mono | apply LeO.refl | apply LeO.none | refine LeO.ite ?_ ?_ | refine LeO.bind ?_ (fun _ => ?_)) | apply LeO.none | refine LeO.ite ?_ ?_ | refine LeO.bind ?_ (fun _ => ?_)
theorem w2_Print.mono : ∀ a0 k, LeO (w2_Print.f k a0) (w2_Print.f (k + 1) a0) := by
 intro a0 k
 obtain ⟨ih0, ih1, ih2⟩ := w2_Print.mono_l k
 unfold w2_Print.f
 repeat' first | (with_reducible first | apply ih0 | apply ih1 | apply ih2 | apply w2_nearest.mono | apply w2_scaled.mono | apply LeO.refl | apply LeO.none | refine LeO.ite ?_ ?_ | refine LeO.bind ?_ (fun _ => ?_)) | apply LeO.none | refine LeO.ite ?_ ?_ | refine LeO.bind ?_ (fun _ => ?_)
theorem w2_Print.calls (k : Nat) (a0 : Nat) (r : ByteArray) (w : World) (htab : Sd (Rm.Tab w)) (h : w2_Print.f k a0 = some r) :
  Calls Tryz.prog 11 #[.float .f64 a0] w fun e w' => e = .returned (.string r) ∧ Below w.heap.size w w' := by
 have HB := Sd.mk (Below.refl w.heap.size w)
 have H : ((math_Signbit.f a0).bind fun t579 => (if t579 = true then (w2_Print.j0 k (Op.negFloat .f64 a0) (⟨#[45]⟩ : ByteArray)) else (w2_Print.j0 k a0 (⟨#[]⟩ : ByteArray)))) = some r := h
 clear h
 obtain ⟨t579, A2, H⟩ := sqO H
 try dsimp only at H
 have HC3 := Sd.mk H
 clear H
 go_enter Tryz.func11, Tryz.ntmps11
 go_upto_if 9 with (first | ((with_reducible refine gcl (f := 37) rfl ?_); refine gL (some 9) rfl rfl Tryz.func37 (by kernel_rfl) rfl #[.float .f64 a0] rfl sqA ?_; (with_reducible refine (math_Signbit.calls a0 t579 _ A2.out).mono ?_); rintro e w' ⟨rfl, ⟨nd, rfl⟩⟩; refine ⟨_, rfl, ?_⟩))
 (try simp only [Act.put, List.setIfInBounds_toArray, List.set_cons_zero, List.set_cons_succ])
 go_cut [0, 3] (fun v0 v3 wc => ∃ (kq : Nat) (x0_2 : Nat) (x3_2 : ByteArray), v0 = .float .f64 x0_2 ∧ v3 = .string x3_2 ∧ Sd (w2_Print.j0 kq x0_2 x3_2 = some r) ∧ Sd (kq ≤ k) ∧ Sd (Below w.heap.size w wc))
 case first =>
  have H := HC3.out
  clear HC3
  by_cases c4 : t579 = true
  ·subst c4
   have H1 : (w2_Print.j0 k (Op.negFloat .f64 a0) (⟨#[45]⟩ : ByteArray)) = some r := by rw [if_pos rfl] at H; exact H
   clear H
   have H := H1
   clear H1
   have H' := Sd.mk H
   clear H
   go_wp2
   go_meet
   case rel => exact ⟨_, (Op.negFloat .f64 a0), ((⟨#[45]⟩ : ByteArray)), sqE, sqE, H', ⟨by first | omega | exact Nat.le_refl _⟩, ⟨sqB⟩⟩
  replace c4 := Bool.eq_false_iff.mpr c4
  subst c4
  have H1 : (w2_Print.j0 k a0 (⟨#[]⟩ : ByteArray)) = some r := by rw [if_neg (show ¬ (false = true) by decide)] at H; exact H
  clear H
  have H := H1
  clear H1
  have H' := Sd.mk H
  clear H
  go_wp2
  go_meet
  case rel => exact ⟨_, (a0), ((⟨#[]⟩ : ByteArray)), sqE, sqE, H', ⟨by first | omega | exact Nat.le_refl _⟩, ⟨sqB⟩⟩
 case rest =>
  clear HC3
  try clear c1
  try clear p2
  try clear c3
  try clear c4
  obtain ⟨kq, x0_2, x3_2, rfl, rfl, HA, HJ2, HB⟩ := hcut
  cases kq with
  | zero => exact absurd HA.out (by simp [w2_Print.j0])
  | succ kj2 =>
   have H := HA.out
   clear HA
   simp only [w2_Print.j0] at H
   by_cases c5 : (FloatKind.f64.format.order x0_2 x0_2 != some .eq) = true
   ·rw [if_pos c5] at H
    have c5b0 : (FloatKind.f64.format.order x0_2 x0_2 != some .eq) = true := c5
    (try (have c5b1 : decide (FloatKind.f64.format.order x0_2 x0_2 = some .eq) = false := by simpa using c5))
    (try (have c5b2 : (FloatKind.f64.format.order x0_2 x0_2 == some .eq) = false := by simpa using c5))
    (try (have c5b3 : ¬ (FloatKind.f64.format.order x0_2 x0_2 = some .eq) := by simpa using c5))
    clear c5
    obtain rfl := Option.some.inj H
    go_wp2
    go_ret
    exact ⟨sqE', sqB⟩
   rw [if_neg c5] at H
   have c5b0 : (FloatKind.f64.format.order x0_2 x0_2 != some .eq) = false := by simpa using c5
   (try (have c5b1 : decide (FloatKind.f64.format.order x0_2 x0_2 = some .eq) = true := by simpa using c5))
   (try (have c5b2 : (FloatKind.f64.format.order x0_2 x0_2 == some .eq) = true := by simpa using c5))
   clear c5
   obtain ⟨t580, A6, H⟩ := sqO H
   try dsimp only at H
   by_cases c7 : t580 = true
   ·subst c7
    have H1 : (if x3_2.size + 3 ≤ 9223372036854775807 then (some (x3_2 ++ (⟨#[105, 110, 102]⟩ : ByteArray))) else (none)) = some r := by rw [if_pos rfl] at H; exact H
    clear H
    have H := H1
    clear H1
    by_cases c8 : x3_2.size + 3 ≤ 9223372036854775807
    case neg => rw [if_neg c8] at H; exact absurd H (by simp)
    rw [if_pos c8] at H
    have c8b0 := eq_true c8
    have c8b1 := decide_eq_true c8
    try have c8b2 : (9223372036854775807 < x3_2.size + 3) = False := eq_false (Nat.not_lt.2 c8)
    obtain rfl := Option.some.inj H
    go_wp2_with (first | ((with_reducible refine gcl (f := 30) rfl ?_); refine gL (some 18) rfl rfl Tryz.func30 (by kernel_rfl) rfl #[.float .f64 x0_2, .int .i64 1] rfl sqA ?_; (with_reducible refine (math_IsInf.calls x0_2 1 true _ A6.out).mono ?_); rintro e w' ⟨rfl, ⟨nd, rfl⟩⟩; refine ⟨_, rfl, ?_⟩))
    go_ret
    exact ⟨sqE', sqB⟩
   replace c7 := Bool.eq_false_iff.mpr c7
   subst c7
   have H1 : (if (FloatKind.f64.format.order x0_2 (0 : Nat) == some .eq) = true then (if x3_2.size + 1 ≤ 9223372036854775807 then (some (x3_2 ++ (⟨#[48]⟩ : ByteArray))) else (none)) else ((math_Log10.f x0_2).bind fun t581 => ((math_Floor.f t581).bind fun t582 => ((floatToIntVal .f64 t582 .i64).bind fun t583 => (w2_Print.l0 kj2 x0_2 x3_2 (wrap64 (t583 - 2))))))) = some r := by rw [if_neg (show ¬ (false = true) by decide)] at H; exact H
   clear H
   have H := H1
   clear H1
   by_cases c9 : (FloatKind.f64.format.order x0_2 (0 : Nat) == some .eq) = true
   ·rw [if_pos c9] at H
    have c9b0 : (FloatKind.f64.format.order x0_2 (0 : Nat) == some .eq) = true := c9
    (try (have c9b1 : decide (FloatKind.f64.format.order x0_2 (0 : Nat) = some .eq) = true := by simpa using c9))
    (try (have c9b2 : (FloatKind.f64.format.order x0_2 (0 : Nat) == some .eq) = true := by simpa using c9))
    clear c9
    by_cases c10 : x3_2.size + 1 ≤ 9223372036854775807
    case neg => rw [if_neg c10] at H; exact absurd H (by simp)
    rw [if_pos c10] at H
    have c10b0 := eq_true c10
    have c10b1 := decide_eq_true c10
    try have c10b2 : (9223372036854775807 < x3_2.size + 1) = False := eq_false (Nat.not_lt.2 c10)
    obtain rfl := Option.some.inj H
    go_wp2_with (first | ((with_reducible refine gcl (f := 30) rfl ?_); refine gL (some 18) rfl rfl Tryz.func30 (by kernel_rfl) rfl #[.float .f64 x0_2, .int .i64 1] rfl sqA ?_; (with_reducible refine (math_IsInf.calls x0_2 1 false _ A6.out).mono ?_); rintro e w' ⟨rfl, ⟨nd, rfl⟩⟩; refine ⟨_, rfl, ?_⟩))
    go_ret
    exact ⟨sqE', sqB⟩
   rw [if_neg c9] at H
   have c9b0 : (FloatKind.f64.format.order x0_2 (0 : Nat) == some .eq) = false := by simpa using c9
   (try (have c9b1 : decide (FloatKind.f64.format.order x0_2 (0 : Nat) = some .eq) = false := by simpa using c9))
   (try (have c9b2 : (FloatKind.f64.format.order x0_2 (0 : Nat) == some .eq) = false := by simpa using c9))
   (try (have c9b3 : ¬ (FloatKind.f64.format.order x0_2 (0 : Nat) = some .eq) := by simpa using c9))
   clear c9
   obtain ⟨t581, A11, H⟩ := sqO H
   try dsimp only at H
   obtain ⟨t582, A12, H⟩ := sqO H
   try dsimp only at H
   replace H := Option.bind_eq_some_iff.mp H
   obtain ⟨t583, A130, H⟩ := H
   try dsimp only at H
   have hf14 : ∀ w_ : World, Sem.run Tryz.prog (convert 22 3 (.float .f64 t582)) w_ = .ok (.int .i64 t583) w_ := fun w_ => run_convert_float_int w_ 22 3 .f64 .i64 t582 t583 (by rw [Tryz.underlying22]; rfl) Tryz.underlying3 A130
   clear A130
   have H' := Sd.mk H
   clear H
   go_wp2_with (first | ((with_reducible refine gcl (f := 30) rfl ?_); refine gL (some 18) rfl rfl Tryz.func30 (by kernel_rfl) rfl #[.float .f64 x0_2, .int .i64 1] rfl sqA ?_; (with_reducible refine (math_IsInf.calls x0_2 1 false _ A6.out).mono ?_); rintro e w' ⟨rfl, ⟨nd, rfl⟩⟩; refine ⟨_, rfl, ?_⟩) | ((with_reducible refine gcl (f := 39) rfl ?_); refine gL (some 27) rfl rfl Tryz.func39 (by kernel_rfl) rfl #[.float .f64 x0_2] rfl sqA ?_; (with_reducible refine (math_Log10.calls x0_2 t581 _ A11.out).mono ?_); rintro e w' ⟨rfl, ⟨nd, rfl⟩⟩; refine ⟨_, rfl, ?_⟩) | ((with_reducible refine gcl (f := 38) rfl ?_); refine gL (some 28) rfl rfl Tryz.func38 (by kernel_rfl) rfl #[.float .f64 t581] rfl sqA ?_; (with_reducible refine (math_Floor.calls t581 t582 _ A12.out).mono ?_); rintro e w' ⟨rfl, ⟨nd, rfl⟩⟩; refine ⟨_, rfl, ?_⟩))
   try simp only [Act.put, List.setIfInBounds_toArray, List.set_cons_zero, List.set_cons_succ]
   go_loopg [4] kj2 (fun kq v4 w' => ∃ (x4_2 : Int), v4 = .int .i64 x4_2 ∧ Sd (w2_Print.l0 kq x0_2 x3_2 x4_2 = some r) ∧ Sd (kq ≤ kj2) ∧ Sd (Below w.heap.size w w'))
   case atStart => exact ⟨(wrap64 (t583 - 2)), sqE, H', ⟨Nat.le_refl _⟩, ⟨sqB⟩⟩
   case round =>
    clear H'
    try clear c1
    try clear hf1
    try clear p2
    try clear c3
    try clear c4
    try clear c5
    try clear c5b0
    try clear c5b1
    try clear c5b2
    try clear p6
    try clear c7
    try clear c8
    try clear c8b0
    try clear c8b1
    try clear c8b2
    try clear c9
    try clear c9b0
    try clear c9b1
    try clear c9b2
    try clear c10
    try clear c10b0
    try clear c10b1
    try clear c10b2
    try clear c11
    try clear hf14
    try clear p2
    obtain ⟨x4_2, rfl, HA, HK2, HB⟩ := hrel
    cases gk with
    | zero => exact absurd HA.out (by simp [w2_Print.l0])
    | succ k2 =>
     have H := HA.out
     clear HA
     simp only [w2_Print.l0] at H
     obtain ⟨t584, A15, H⟩ := sqO H
     try dsimp only at H
     by_cases c16 : t584 > 0
     ·rw [if_pos c16] at H
      have c16b0 := decide_eq_true c16
      clear c16
      have H' := Sd.mk H
      clear H
      go_wp2_with (first | ((with_reducible refine gcl (f := 40) rfl ?_); refine gL (some 34) rfl rfl Tryz.func40 (by kernel_rfl) rfl #[.float .f64 x0_2, .int .i64 (wrap64 (x4_2 + 1))] rfl sqA ?_; (with_reducible refine (w2_scaled.calls k2 x0_2 (wrap64 (x4_2 + 1)) t584 _ A15.out).mono ?_); rintro e w17 ⟨rfl, hb⟩; refine ⟨_, rfl, ?_⟩; have n0_ := Sd.mk (bst sqB hb); clear HB; have HB := n0_; clear n0_; (try clear hb); (try clear hb2); (try clear hk); (try clear hi)))
      go_roundg k2
      case measure => have := HJ2.out; have := HK2.out; omega
      case rel => exact ⟨(wrap64 (x4_2 + 1)), sqE, H', ⟨by have := HJ2.out; have := HK2.out; omega⟩, ⟨sqB⟩⟩
     rw [if_neg c16] at H
     have c16b0 := decide_eq_false c16
     clear c16
     have H' := Sd.mk H
     clear H
     go_wp2_with (first | ((with_reducible refine gcl (f := 40) rfl ?_); refine gL (some 34) rfl rfl Tryz.func40 (by kernel_rfl) rfl #[.float .f64 x0_2, .int .i64 (wrap64 (x4_2 + 1))] rfl sqA ?_; (with_reducible refine (w2_scaled.calls k2 x0_2 (wrap64 (x4_2 + 1)) t584 _ A15.out).mono ?_); rintro e w18 ⟨rfl, hb⟩; refine ⟨_, rfl, ?_⟩; have n0_ := Sd.mk (bst sqB hb); clear HB; have HB := n0_; clear n0_; (try clear hb); (try clear hb2); (try clear hk); (try clear hi)))
     try simp only [Act.put, List.setIfInBounds_toArray, List.set_cons_zero, List.set_cons_succ]
     go_loopg [5] k2 (fun kq v5 w' => ∃ (x5_3 : Int), v5 = .int .i64 x5_3 ∧ Sd (w2_Print.l1 kq x0_2 x3_2 x4_2 x5_3 = some r) ∧ Sd (kq ≤ k2) ∧ Sd (Below w.heap.size w w'))
     case atStart => exact ⟨(1), sqE, H', ⟨Nat.le_refl _⟩, ⟨sqB⟩⟩
     case round =>
      clear H'
      try clear c1
      try clear hf1
      try clear p2
      try clear c3
      try clear c4
      try clear c5
      try clear c5b0
      try clear c5b1
      try clear c5b2
      try clear p6
      try clear c7
      try clear c8
      try clear c8b0
      try clear c8b1
      try clear c8b2
      try clear c9
      try clear c9b0
      try clear c9b1
      try clear c9b2
      try clear c10
      try clear c10b0
      try clear c10b1
      try clear c10b2
      try clear c11
      try clear hf14
      try clear c16
      try clear c16b0
      try clear p2
      try clear p6
      obtain ⟨x5_3, rfl, HA, HK3, HB⟩ := hrel
      cases gk with
      | zero => exact absurd HA.out (by simp [w2_Print.l1])
      | succ k3 =>
       have H := HA.out
       clear HA
       simp only [w2_Print.l1] at H
       obtain ⟨⟨t585, t586⟩, A19, H⟩ := sqO H
       try dsimp only at H
       by_cases c20 : t586 = true
       case neg =>
        replace c20 := Bool.eq_false_iff.mpr c20
        subst c20
        have H1 : (w2_Print.l1 k3 x0_2 x3_2 x4_2 (wrap64 (x5_3 + 1))) = some r := by rw [if_neg (show ¬ (false = true) by decide)] at H; exact H
        clear H
        have H := H1
        clear H1
        have H' := Sd.mk H
        clear H
        go_wp2_with (first | ((with_reducible refine gcl (f := 41) rfl ?_); refine gL (some 46) rfl rfl Tryz.func41 (by kernel_rfl) rfl #[.float .f64 x0_2, .int .i64 (wrap64 ((wrap64 (x4_2 - x5_3)) + 1))] rfl sqA ?_; (with_reducible refine (w2_nearest.calls k3 x0_2 (wrap64 ((wrap64 (x4_2 - x5_3)) + 1)) t585 false _ ⟨htab.out.below sqB⟩ A19.out).mono ?_); rintro e w23 ⟨rfl, hb⟩; refine ⟨_, rfl, ?_⟩; have n0_ := Sd.mk (bst sqB hb); clear HB; have HB := n0_; clear n0_; (try clear hb); (try clear hb2); (try clear hk); (try clear hi)))
        go_roundg k3
        case measure => have := HJ2.out; have := HK2.out; have := HK3.out; omega
        case rel => exact ⟨(wrap64 (x5_3 + 1)), sqE, H', ⟨by have := HJ2.out; have := HK2.out; have := HK3.out; omega⟩, ⟨sqB⟩⟩
       subst c20
       have H1 : (if x3_2.size + t585.size ≤ 9223372036854775807 then (some (x3_2 ++ t585)) else (none)) = some r := by rw [if_pos rfl] at H; exact H
       clear H
       have H := H1
       clear H1
       by_cases c21 : x3_2.size + t585.size ≤ 9223372036854775807
       case neg => rw [if_neg c21] at H; exact absurd H (by simp)
       rw [if_pos c21] at H
       have c21b0 := eq_true c21
       have c21b1 := decide_eq_true c21
       try have c21b2 : (9223372036854775807 < x3_2.size + t585.size) = False := eq_false (Nat.not_lt.2 c21)
       obtain rfl := Option.some.inj H
       go_wp2_with (first | ((with_reducible refine gcl (f := 41) rfl ?_); refine gL (some 46) rfl rfl Tryz.func41 (by kernel_rfl) rfl #[.float .f64 x0_2, .int .i64 (wrap64 ((wrap64 (x4_2 - x5_3)) + 1))] rfl sqA ?_; (with_reducible refine (w2_nearest.calls k3 x0_2 (wrap64 ((wrap64 (x4_2 - x5_3)) + 1)) t585 true _ ⟨htab.out.below sqB⟩ A19.out).mono ?_); rintro e w22 ⟨rfl, hb⟩; refine ⟨_, rfl, ?_⟩; have n0_ := Sd.mk (bst sqB hb); clear HB; have HB := n0_; clear n0_; (try clear hb); (try clear hb2); (try clear hk); (try clear hi)))
       go_ret
       exact ⟨sqE', sqB⟩
def w2_Sum.l0 : Nat → Nat → List Nat → Int → Int → Option (Nat)
 | 0, _, _, _, _ => none
 | k + 1, x3, x6, x7, x8 => if x8 < x7 then (if 0 ≤ x8 then (if x8 < (x6.length : Int) then ((floatBits .add .f64 x3 (rdOf 0 x6 x8)).bind fun t588 => (w2_Sum.l0 k t588 x6 x7 (wrap64 (x8 + 1)))) else (none)) else (none)) else (some x3)
def w2_Sum.f (k : Nat) (l0 : List Nat) : Option (Nat) := w2_Sum.l0 k (0 : Nat) l0 (l0.length : Int) 0
theorem w2_Sum.mono_l : ∀ k, (∀ y0 y1 y2 y3, LeO (w2_Sum.l0 k y0 y1 y2 y3) (w2_Sum.l0 (k + 1) y0 y1 y2 y3))
 | 0 => fun _ _ _ _ r h => by simp [w2_Sum.l0] at h
 | k + 1 => by
  have ih0 := w2_Sum.mono_l k
  intro y0 y1 y2 y3
  unfold w2_Sum.l0
  repeat' first | (with_reducible first | apply ih0 | apply LeO.refl | apply LeO.none | refine LeO.ite ?_ ?_ | refine LeO.bind ?_ (fun _ => ?_)) | apply LeO.none | refine LeO.ite ?_ ?_ | refine LeO.bind ?_ (fun _ => ?_)
theorem w2_Sum.mono : ∀ a0 k, LeO (w2_Sum.f k a0) (w2_Sum.f (k + 1) a0) := by
 intro a0 k
 have ih0 := w2_Sum.mono_l k
 unfold w2_Sum.f
 repeat' first | (with_reducible first | apply ih0 | apply LeO.refl | apply LeO.none | refine LeO.ite ?_ ?_ | refine LeO.bind ?_ (fun _ => ?_)) | apply LeO.none | refine LeO.ite ?_ ?_ | refine LeO.bind ?_ (fun _ => ?_)
theorem w2_Sum.calls (k : Nat) (A0 : Option Addr) (c0 : Nat) (l0 : List Nat) (r : Nat) (w : World) (hr0 : Kd.C Kd.flt w A0 l0.length l0) (hc0 : l0.length ≤ c0) (h : w2_Sum.f k l0 = some r) :
  Calls Tryz.prog 15 #[.slice A0 l0.length c0] w fun e w' => e = .returned (.float .f64 r) ∧ Drawn0 w w' := by
 have HR0 := Sd.mk hr0
 have HC0 := Sd.mk hc0
 clear hr0 hc0
 have H : (w2_Sum.l0 k (0 : Nat) l0 (l0.length : Int) 0) = some r := h
 clear h
 have H' := Sd.mk H
 clear H
 go_enter Tryz.func15, Tryz.ntmps15
 go_wp2
 go_loopg [3, 8] k (fun kq v3 v8 w' => ∃ (x3_1 : Nat) (x8_1 : Int), v3 = .float .f64 x3_1 ∧ v8 = .int .i64 x8_1 ∧ Sd (w2_Sum.l0 kq x3_1 l0 (l0.length : Int) x8_1 = some r) ∧ Sd (kq ≤ k) ∧ Drawn0 w w')
 case atStart => exact ⟨((0 : Nat)), (0), sqE, sqE, H', ⟨Nat.le_refl _⟩, sqW⟩
 case round =>
  clear H'
  try clear c1
  obtain ⟨x3_1, x8_1, rfl, rfl, HA, HK1, ⟨m1, rfl⟩⟩ := hrel
  cases gk with
  | zero => exact absurd HA.out (by simp [w2_Sum.l0])
  | succ k1 =>
   have H := HA.out
   clear HA
   simp only [w2_Sum.l0] at H
   by_cases c2 : x8_1 < (l0.length : Int)
   case neg =>
    rw [if_neg c2] at H
    have c2b0 := decide_eq_false c2
    clear c2
    obtain rfl := Option.some.inj H
    go_wp2
    go_ret
    exact ⟨sqE, sqW⟩
   rw [if_pos c2] at H
   have c2b0 := decide_eq_true c2
   clear c2
   by_cases c3 : 0 ≤ x8_1
   case neg => rw [if_neg c3] at H; exact absurd H (by simp)
   rw [if_pos c3] at H
   have c3b0 := decide_eq_true c3
   clear c3
   by_cases c4 : x8_1 < (l0.length : Int)
   case neg => rw [if_neg c4] at H; exact absurd H (by simp)
   rw [if_pos c4] at H
   have c4b0 := decide_eq_true c4
   clear c4
   replace H := Option.bind_eq_some_iff.mp H
   obtain ⟨t588, A50, H⟩ := H
   try dsimp only at H
   have hf6 : ∀ w_ : World, Sem.run Tryz.prog (binOp .add 22 (.float .f64 x3_1) (.float .f64 (rdOf 0 l0 x8_1))) w_ = .ok (.float .f64 t588) w_ := fun w_ => run_float_arith w_ .add 22 .f64 x3_1 (rdOf 0 l0 x8_1) t588 A50
   clear A50
   have H' := Sd.mk H
   clear H
   have p587 : 0 ≤ (x8_1 : Int) := sqD
   have q587 : x8_1 < (l0.length : Int) := sqD
   obtain ⟨ad587, e587, hx587_0⟩ := Kd.at_flt HR0.out x8_1 p587 q587
   cases e587
   replace p587 := eq_true p587
   replace q587 := eq_true q587
   go_wp2
   go_roundg k1
   case measure => have := HK1.out; omega
   case rel => exact ⟨(t588), (wrap64 (x8_1 + 1)), sqE, sqE, H', ⟨by have := HK1.out; omega⟩, sqW⟩
def w2_Pairs.f : Nat → List Nat → Option (Nat)
 | 0, _ => none
 | k + 1, l0 => if (l0.length : Int) = 0 then (some (0 : Nat)) else (if (l0.length : Int) = 1 then (if 0 < (l0.length : Int) then (some (rdOf 0 l0 0)) else (none)) else (if 0 ≤ (wrap64 ((l0.length : Int) / 2)) then (if (wrap64 ((l0.length : Int) / 2)) ≤ (l0.length : Int) then ((w2_Pairs.f k (l0.take ((wrap64 ((l0.length : Int) / 2)) : Int).toNat)).bind fun t591 => ((w2_Pairs.f k (l0.drop ((wrap64 ((l0.length : Int) / 2)) : Int).toNat)).bind fun t593 => ((floatBits .add .f64 t591 t593).bind fun t594 => (some t594)))) else (none)) else (none)))
theorem w2_Pairs.mono_l : ∀ k, (∀ y0, LeO (w2_Pairs.f k y0) (w2_Pairs.f (k + 1) y0))
 | 0 => fun _ r h => by simp [w2_Pairs.f] at h
 | k + 1 => by
  have ih0 := w2_Pairs.mono_l k
  intro y0
  unfold w2_Pairs.f
  repeat' first | (with_reducible first | apply ih0 | apply LeO.refl | apply LeO.none | refine LeO.ite ?_ ?_ | refine LeO.bind ?_ (fun _ => ?_)) | apply LeO.none | refine LeO.ite ?_ ?_ | refine LeO.bind ?_ (fun _ => ?_)
theorem w2_Pairs.mono : ∀ a0 k, LeO (w2_Pairs.f k a0) (w2_Pairs.f (k + 1) a0) := by
 intro a0 k
 have ih0 := w2_Pairs.mono_l k
 exact ih0 a0
def w2_Pairs.T7 : Bool × List (List Nat × List Nat) := (true, [([], []), ([], []), ([0, 1], [0, 1]), ([2], [2]), ([], []), ([], []), ([4, 5], [4, 5]), ([6, 3], [6]), ([3, 7], [3, 7]), ([8, 7, 0, 1, 2, 3, 4, 5, 6, 7, 8], [8])])
def w2_Pairs.B7 : List Nat := [0, 0, 3, 7, 0, 0, 48, 127, 255, 511]
theorem w2_Pairs.tab7 : rtab .any (opsOf Tryz.f16 7) = w2_Pairs.T7 := by kernel_rfl
theorem w2_Pairs.bits7 : waitsOk w2_Pairs.T7.2 w2_Pairs.B7 = true := by kernel_rfl
theorem w2_Pairs.calls (k : Nat) : ∀ (A0 : Option Addr) (c0 : Nat) (l0 : List Nat) (r : Nat) (w : World) (hr0 : Kd.C Kd.flt w A0 l0.length l0) (hc0 : l0.length ≤ c0) (h : w2_Pairs.f k l0 = some r),
  Calls Tryz.prog 16 #[.slice A0 l0.length c0] w fun e w' => e = .returned (.float .f64 r) ∧ Below w.heap.size w w' := by
 induction k using Nat.strongRecOn with
 | _ k ih =>
 intro A0 c0 l0 r w hr0 hc0 h
 cases k with
 | zero => exact absurd h (by simp [w2_Pairs.f])
 | succ k =>
 simp only [w2_Pairs.f] at h
 have HR0 := Sd.mk hr0
 have HC0 := Sd.mk hc0
 clear hr0 hc0
 have HB := Sd.mk (Below.refl w.heap.size w)
 have H : (if (l0.length : Int) = 0 then (some (0 : Nat)) else (if (l0.length : Int) = 1 then (if 0 < (l0.length : Int) then (some (rdOf 0 l0 0)) else (none)) else (if 0 ≤ (wrap64 ((l0.length : Int) / 2)) then (if (wrap64 ((l0.length : Int) / 2)) ≤ (l0.length : Int) then ((w2_Pairs.f k (l0.take ((wrap64 ((l0.length : Int) / 2)) : Int).toNat)).bind fun t591 => ((w2_Pairs.f k (l0.drop ((wrap64 ((l0.length : Int) / 2)) : Int).toNat)).bind fun t593 => ((floatBits .add .f64 t591 t593).bind fun t594 => (some t594)))) else (none)) else (none)))) = some r := h
 clear h
 by_cases c2 : (l0.length : Int) = 0
 ·rw [if_pos c2] at H
  have c2b0 := beq_iff_eq.mpr c2
  have c2b1 := bne_eq_false_iff_eq.mpr c2
  clear c2
  obtain rfl := Option.some.inj H
  go_enter Tryz.func16, Tryz.ntmps16
  go_wp2
  go_ret
  exact ⟨sqE', sqB⟩
 rw [if_neg c2] at H
 have c2b0 := beq_eq_false_iff_ne.mpr c2
 have c2b1 := bne_iff_ne.mpr c2
 have c2b2 : ¬ (l0 = []) := fun h_ => c2 (by rw [h_]; rfl)
 by_cases c3 : (l0.length : Int) = 1
 ·rw [if_pos c3] at H
  have c3b0 := beq_iff_eq.mpr c3
  have c3b1 := bne_eq_false_iff_eq.mpr c3
  clear c3
  by_cases c4 : 0 < (l0.length : Int)
  case neg => rw [if_neg c4] at H; exact absurd H (by simp)
  rw [if_pos c4] at H
  have c4b0 := decide_eq_true c4
  have c4b1 : decide (0 < l0.length) = true := decide_eq_true (by omega)
  clear c4
  obtain rfl := Option.some.inj H
  have p589 : 0 ≤ (0 : Int) := (by omega)
  have q589 : 0 < (l0.length : Int) := sqD
  obtain ⟨ad589, e589, hx589_0⟩ := Kd.at_flt HR0.out 0 p589 q589
  cases e589
  have qi589 : (0 < l0.length) = True := eq_true (by omega)
  (try rw [show ((0 : Int)).toNat = 0 from rfl] at hx589_0)
  (try rw [Addr.add_zero'] at hx589_0)
  replace p589 := eq_true p589
  replace q589 := eq_true q589
  go_enter Tryz.func16, Tryz.ntmps16
  go_wp2
  go_ret
  exact ⟨sqE', sqB⟩
 rw [if_neg c3] at H
 have c3b0 := beq_eq_false_iff_ne.mpr c3
 have c3b1 := bne_iff_ne.mpr c3
 obtain ⟨ji5, hji5⟩ : ∃ j_ : Int, (wrap64 ((l0.length : Int) / 2)) = j_ := ⟨_, rfl⟩
 replace H : (if 0 ≤ (ji5) then (if (ji5) ≤ (l0.length : Int) then ((w2_Pairs.f k (l0.take ((ji5) : Int).toNat)).bind fun t591 => ((w2_Pairs.f k (l0.drop ((ji5) : Int).toNat)).bind fun t593 => ((floatBits .add .f64 t591 t593).bind fun t594 => (some t594)))) else (none)) else (none)) = some r := by first | (rw [hji5] at H; exact H) | (simp only [hji5] at H ⊢; exact H)
 have hji5w : (IntKind.i64.wrap ((l0.length : Int) / 2)) = ji5 := (i64_w _).trans hji5
 by_cases c6 : 0 ≤ (ji5)
 case neg => rw [if_neg c6] at H; exact absurd H (by simp)
 rw [if_pos c6] at H
 have c6b0 := eq_true c6
 have c6b1 := decide_eq_true c6
 clear c6
 by_cases c7 : (ji5) ≤ (l0.length : Int)
 case neg => rw [if_neg c7] at H; exact absurd H (by simp)
 rw [if_pos c7] at H
 have c7b0 := eq_true c7
 have c7b1 := decide_eq_true c7
 clear c7
 obtain ⟨t591, A8, H⟩ := sqO H
 try dsimp only at H
 have c9b0 := eq_true (sqD : 0 ≤ (ji5))
 have c10b0 := eq_true (sqD : (ji5) ≤ (l0.length : Int))
 obtain ⟨t593, A11, H⟩ := sqO H
 try dsimp only at H
 replace H := Option.bind_eq_some_iff.mp H
 obtain ⟨t594, A120, H⟩ := H
 try dsimp only at H
 have hf13 : ∀ w_ : World, Sem.run Tryz.prog (binOp .add 22 (.float .f64 t591) (.float .f64 t593)) w_ = .ok (.float .f64 t594) w_ := fun w_ => run_float_arith w_ .add 22 .f64 t591 t593 t594 A120
 clear A120
 obtain rfl := Option.some.inj H
 go_enter Tryz.func16, Tryz.ntmps16
 try go_wp2
 have n0_ := Sd.mk (below_drew1 HB.out)
 clear HB
 have HB := n0_
 clear n0_
 obtain ⟨i015, hi015, _, hsz15, _⟩ := info_parts info22
 obtain ⟨hcut15, hA15, hC15⟩ := print_take_of (P := Tryz.prog) (Value.float .f64) (0 : Nat) 37 22 .i64 Tryz.underlying37 hi015 hsz15 A0 c0 l0 (ji5) sqD sqD HC0.out
 have HR590 := Sd.mk (Kd.C_of_reads (h1 := fun _ => rfl) (hA15 _ (Kd.reads_of_C HR0.out)))
 have HC590 := Sd.mk hC15
 clear hA15 hC15 hi015 hsz15
 obtain ⟨i016, hi016, _, hsz16, _⟩ := info_parts info22
 obtain ⟨A16, hcut16, hA16, hC16⟩ := print_drop_of (P := Tryz.prog) (Value.float .f64) (0 : Nat) 37 22 .i64 Tryz.underlying37 hi016 hsz16 A0 c0 l0 (ji5) sqD sqD HC0.out
 have HR592 := Sd.mk (Kd.C_of_reads (h1 := fun _ => rfl) (hA16 _ (Kd.reads_of_C HR0.out)))
 have HC592 := Sd.mk hC16
 clear hA16 hC16 hi016 hsz16
 refine start_ (n := 10) (S := fun w' => True) (ds := []) #[false, false, false, false, false, false, false, false, false, false] (by kernel_rfl) rfl rfl trivial (fun hHeld => ?_); refine with_tabW w2_Pairs.tab7 w2_Pairs.bits7 (fun HT_ HW_ => ?_)
 generalize w.drew = w14 at HB HR590 HR592 hHeld ⊢
 refine pure_ (i := 0) (N := some 16) (v := ?_) (a' := ?_) #[true, false, false, false, false, false, false, false, false, false] rfl rfl (any_of HT_.out (by kernel_rfl)) (fun _ _ _ h => h) (Or.inl ⟨by rfl, ?_⟩) ?_ ?_
 rotate_left
 ·intro w'
  go_simp
  with_reducible rfl
 rotate_left
 ·simp only [Act.put, List.setIfInBounds_toArray, List.set_cons_zero, List.set_cons_succ, i64_w, i32_w]
  rfl
 refine pure_ (i := 1) (N := some 17) (v := ?_) (a' := ?_) #[true, true, false, false, false, false, false, false, false, false] rfl rfl (any_of HT_.out (by kernel_rfl)) (fun _ _ _ h => h) (Or.inl ⟨by rfl, ?_⟩) ?_ ?_
 rotate_left
 ·intro w'
  go_simp
  with_reducible rfl
 rotate_left
 ·simp only [Act.put, List.setIfInBounds_toArray, List.set_cons_zero, List.set_cons_succ, i64_w, i32_w]
  rfl
 refine pure_ (i := 2) (N := some 18) (v := ?_) (a' := ?_) #[true, true, true, false, false, false, false, false, false, false] rfl rfl (any_of HT_.out (by kernel_rfl)) (fun _ _ _ h => h) (Or.inl ⟨by rfl, ?_⟩) ?_ ?_
 rotate_left
 ·intro w'
  go_simp
  with_reducible rfl
 rotate_left
 ·simp only [Act.put, List.setIfInBounds_toArray, List.set_cons_zero, List.set_cons_succ, i64_w, i32_w]
  rfl
 refine pure_ (i := 4) (N := some 20) (v := ?_) (a' := ?_) #[true, true, true, false, true, false, false, false, false, false] rfl rfl (any_of HT_.out (by kernel_rfl)) (fun _ _ _ h => h) (Or.inl ⟨by rfl, ?_⟩) ?_ ?_
 rotate_left
 ·intro w'
  go_simp
  with_reducible rfl
 rotate_left
 ·simp only [Act.put, List.setIfInBounds_toArray, List.set_cons_zero, List.set_cons_succ, i64_w, i32_w]
  rfl
 refine pure_ (i := 5) (N := some 21) (v := ?_) (a' := ?_) #[true, true, true, false, true, true, false, false, false, false] rfl rfl (any_of HT_.out (by kernel_rfl)) (fun _ _ _ h => h) (Or.inl ⟨by rfl, ?_⟩) ?_ ?_
 rotate_left
 ·intro w'
  go_simp
  with_reducible rfl
 rotate_left
 ·simp only [Act.put, List.setIfInBounds_toArray, List.set_cons_zero, List.set_cons_succ, i64_w, i32_w]
  rfl
 refine pure_ (i := 6) (N := some 22) (v := ?_) (a' := ?_) #[true, true, true, false, true, true, true, false, false, false] rfl rfl (any_of HT_.out (by kernel_rfl)) (fun _ _ _ h => h) (Or.inl ⟨by rfl, ?_⟩) ?_ ?_
 rotate_left
 ·intro w'
  go_simp
  with_reducible rfl
 rotate_left
 ·simp only [Act.put, List.setIfInBounds_toArray, List.set_cons_zero, List.set_cons_succ, i64_w, i32_w]
  rfl
 refine one_ (i := 3) (N := some 19) #[true, true, true, true, true, true, true, false, false, false] rfl rfl (one_of HT_.out (by kernel_rfl)) (by decide) (fun K hK => ?_)
 refine goes_ Tryz.func16 (by kernel_rfl) rfl #[.slice A0 (l0.take ((ji5) : Int).toNat).length c0] (by rfl) rfl rfl (by (try simp only [List.map_toArray, List.map_cons, List.map_nil]); first | done | (rw [show (l0.take ((ji5) : Int).toNat).length = (ji5).toNat from (by rw [List.length_take]; have h_ : ((ji5) : Int) ≤ (l0.length : Int) := sqD; omega)] <;> rfl) | (simp only [hji5]; rfl) | rfl | (simp only [List.length_drop, List.length_take]; rfl)) ?_
 with_reducible refine (ih k (by omega) _ _ (l0.take ((ji5) : Int).toNat) t591 _ ?side1 ?side2 A8.out).mono ?_
 (case side1 => repeat (first | exact (Kd.C_below HR590.out HB.out) | (with_reducible refine Kd.C_alloc ?_ _) | (with_reducible refine Kd.C_drewN ?_ _) | (with_reducible refine Kd.C_drew ?_)))
 (case side2 => exact HC590.out)
 rintro e w17 ⟨rfl, hb⟩
 refine ⟨_, rfl, ?_⟩
 have n0_ := Sd.mk (bst sqB hb)
 clear HB
 have HB := n0_
 clear n0_
 (try clear hb)
 (try clear hb2)
 (try clear hk)
 (try clear hi)
 refine hK.out _ _ trivial (fun hHeld => ?_)
 clear hK K
 refine norm_ (a' := ?_) ?_ ?_
 rotate_left
 ·show Act.put _ (some 19) _ = _
  simp only [Act.put, List.setIfInBounds_toArray, List.set_cons_zero, List.set_cons_succ, i64_w, i32_w]
  rfl
 refine one_ (i := 7) (N := some 23) #[true, true, true, true, true, true, true, true, false, false] rfl rfl (one_of HT_.out (by kernel_rfl)) (by decide) (fun K hK => ?_)
 refine goes_ Tryz.func16 (by kernel_rfl) rfl #[.slice A16 (l0.drop ((ji5) : Int).toNat).length (c0 - (ji5).toNat)] (by rfl) rfl rfl (by (try simp only [List.map_toArray, List.map_cons, List.map_nil]); first | done | (rw [show (l0.drop ((ji5) : Int).toNat).length = (l0.length - (ji5).toNat) from List.length_drop] <;> rfl) | (simp only [hji5]; rfl) | rfl | (simp only [List.length_drop, List.length_take]; rfl)) ?_
 with_reducible refine (ih k (by omega) _ _ (l0.drop ((ji5) : Int).toNat) t593 _ ?side1 ?side2 A11.out).mono ?_
 (case side1 => repeat (first | exact (Kd.C_below HR592.out HB.out) | (with_reducible refine Kd.C_alloc ?_ _) | (with_reducible refine Kd.C_drewN ?_ _) | (with_reducible refine Kd.C_drew ?_)))
 (case side2 => exact HC592.out)
 rintro e w18 ⟨rfl, hb⟩
 refine ⟨_, rfl, ?_⟩
 have n0_ := Sd.mk (bst sqB hb)
 clear HB
 have HB := n0_
 clear n0_
 (try clear hb)
 (try clear hb2)
 (try clear hk)
 (try clear hi)
 refine hK.out _ _ trivial (fun hHeld => ?_)
 clear hK K
 refine norm_ (a' := ?_) ?_ ?_
 rotate_left
 ·show Act.put _ (some 23) _ = _
  simp only [Act.put, List.setIfInBounds_toArray, List.set_cons_zero, List.set_cons_succ, i64_w, i32_w]
  rfl
 refine pure_ (i := 8) (N := some 24) (v := ?_) (a' := ?_) #[true, true, true, true, true, true, true, true, true, false] rfl rfl (any_of HT_.out (by kernel_rfl)) (fun _ _ _ h => h) (Or.inl ⟨by rfl, ?_⟩) ?_ ?_
 rotate_left
 ·intro w'
  go_simp
  with_reducible rfl
 rotate_left
 ·simp only [Act.put, List.setIfInBounds_toArray, List.set_cons_zero, List.set_cons_succ, i64_w, i32_w]
  rfl
 refine pure_ (i := 9) (N := some 2) (v := ?_) (a' := ?_) #[true, true, true, true, true, true, true, true, true, true] rfl rfl (any_of HT_.out (by kernel_rfl)) (fun _ _ _ h => h) (Or.inl ⟨by rfl, ?_⟩) ?_ ?_
 rotate_left
 ·intro w'
  go_simp
  with_reducible rfl
 rotate_left
 ·simp only [Act.put, List.setIfInBounds_toArray, List.set_cons_zero, List.set_cons_succ, i64_w, i32_w]
  rfl
 refine done_ (done_of HT_.out (by kernel_rfl)) ?_
 try go_wp2
 go_ret
 exact ⟨by first | rfl | (simp [errW_none, errW_some] <;> rfl) | (simp only [← hji5]; first | rfl | (simp [errW_none, errW_some] <;> rfl)) | (simp [*, errW_none, errW_some] <;> rfl), sqB⟩
def api_Float.f (a0 : Int) : Option (Nat) := some ((a0 : Int).toNat)
theorem api_Float.calls (a0 : Int) (r : Nat) (w : World) (h : api_Float.f a0 = some r) :
  Calls Tryz.prog 12 #[.int .u64 a0] w fun e w' => e = .returned (.float .f64 r) ∧ Drawn0 w w' := by
 have H : (some ((a0 : Int).toNat)) = some r := h
 clear h
 have hf2 := fun w_ : World => Rm.x_Float64frombits a0 w_
 obtain rfl := Option.some.inj H
 go_enter Tryz.func12, Tryz.ntmps12
 go_wp2
 go_ret
 exact ⟨sqE, sqW⟩
end Go.Proofs.YtfmjdoofopamkaaGreatDoor.W
