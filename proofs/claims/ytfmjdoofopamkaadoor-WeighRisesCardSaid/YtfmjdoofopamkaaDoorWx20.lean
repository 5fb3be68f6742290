-- written by wip/pp.py of this session (the kit's print with patches); checked by Lean alone
import Derived.Test.YtfmjdoofopamkaaDoorWx0
import Derived.Test.YtfmjdoofopamkaaDoorWx6
import Derived.Test.YtfmjdoofopamkaaDoorWx10
import Derived.Test.YtfmjdoofopamkaaDoorWx19
namespace Go.Proofs.YtfmjdoofopamkaaDoor.W
open Go.RowKit Go.Proofs.YtfmjdoofopamkaaDoorW.PrintWords Go.Proofs.YtfmjdoofopamkaaDoorW.PrintLast Go.Proofs.YtfmjdoofopamkaaDoorW.PrintMore
attribute [local go_sem] max2_int min2_int max_two min_two max_three min_three max_four min_four   -- for this text's walks alone
set_option linter.unusedVariables false
set_option linter.unusedSimpArgs false

/-! ### endonymlaw2_WeighRises: function 8 -/
def endonymlaw2_WeighRises.j0 : Nat → ByteArray → ByteArray → Nat → Nat → Bool → Option (Bool)
 | 0, _, _, _, _, _ => none
 | k + 1, x0, x1, x5, x7, x51 => if x51 = true then ((endonymlaw2_told.f k).bind fun t596 => (some t596)) else ((endonymlaw2_against.f k x0 x1).bind fun t597 => ((endonymlaw2_told.f k).bind fun t598 => (if t598 = true then (if t597 > 0 then (if t597 < 0 then (some true) else (some (FloatKind.f64.format.order x5 x7 == some .gt || FloatKind.f64.format.order x5 x7 == some .eq))) else (if (FloatKind.f64.format.order x5 x7 == some .lt || FloatKind.f64.format.order x5 x7 == some .eq) = true then (if t597 < 0 then (some true) else (some (FloatKind.f64.format.order x5 x7 == some .gt || FloatKind.f64.format.order x5 x7 == some .eq))) else (some false))) else (some false))))
def endonymlaw2_WeighRises.f (k : Nat) (a0 : ByteArray) (a1 : ByteArray) : Option (Bool) := (weigh_Parse.f k a0).bind fun bt592 => ((weigh_Parse.f k a1).bind fun bt594 => (if bt592.2 = 0 then (if bt594.2 = 0 then (if (a0.size : Int) > 40 then (endonymlaw2_WeighRises.j0 k a0 a1 bt592.1 bt594.1 true) else (if (a1.size : Int) > 40 then (endonymlaw2_WeighRises.j0 k a0 a1 bt592.1 bt594.1 true) else (if a0.toList = ([105, 110, 102] : List UInt8) then (endonymlaw2_WeighRises.j0 k a0 a1 bt592.1 bt594.1 true) else (if a0.toList = ([45, 105, 110, 102] : List UInt8) then (endonymlaw2_WeighRises.j0 k a0 a1 bt592.1 bt594.1 true) else (if a1.toList = ([105, 110, 102] : List UInt8) then (endonymlaw2_WeighRises.j0 k a0 a1 bt592.1 bt594.1 true) else (endonymlaw2_WeighRises.j0 k a0 a1 bt592.1 bt594.1 (a1.toList == ([45, 105, 110, 102] : List UInt8)))))))) else (endonymlaw2_WeighRises.j0 k a0 a1 bt592.1 bt594.1 true)) else (endonymlaw2_WeighRises.j0 k a0 a1 bt592.1 bt594.1 true)))
theorem endonymlaw2_WeighRises.mono_l : ∀ k, (∀ y0 y1 y2 y3 y4, LeO (endonymlaw2_WeighRises.j0 k y0 y1 y2 y3 y4) (endonymlaw2_WeighRises.j0 (k + 1) y0 y1 y2 y3 y4))
 | 0 => fun _ _ _ _ _ r h => by simp [endonymlaw2_WeighRises.j0] at h
 | k + 1 => by
  have ih0 := endonymlaw2_WeighRises.mono_l k
  ·
   intro y0 y1 y2 y3 y4
   unfold endonymlaw2_WeighRises.j0
   repeat' first | (with_reducible first | apply ih0 | apply endonymlaw2_against.mono | apply endonymlaw2_told.mono | apply weigh_Parse.mono | apply LeO.refl | apply LeO.none | refine LeO.ite ?_ ?_ | refine LeO.bind ?_ (fun _ => ?_)) | apply ih0 | apply endonymlaw2_against.mono | apply endonymlaw2_told.mono | apply weigh_Parse.mono | apply LeO.none | refine LeO.ite ?_ ?_ | refine LeO.bind ?_ (fun _ => ?_)
theorem endonymlaw2_WeighRises.mono : ∀ a0 a1 k, LeO (endonymlaw2_WeighRises.f k a0 a1) (endonymlaw2_WeighRises.f (k + 1) a0 a1) := by
 intro a0 a1 k
 have ih0 := endonymlaw2_WeighRises.mono_l k
 unfold endonymlaw2_WeighRises.f
 repeat' first | (with_reducible first | apply ih0 | apply endonymlaw2_against.mono | apply endonymlaw2_told.mono | apply weigh_Parse.mono | apply LeO.refl | apply LeO.none | refine LeO.ite ?_ ?_ | refine LeO.bind ?_ (fun _ => ?_)) | apply ih0 | apply endonymlaw2_against.mono | apply endonymlaw2_told.mono | apply weigh_Parse.mono | apply LeO.none | refine LeO.ite ?_ ?_ | refine LeO.bind ?_ (fun _ => ?_)
set_option maxHeartbeats 8000000 in
set_option maxRecDepth 100000 in
theorem endonymlaw2_WeighRises.calls (k : Nat) (a0 : ByteArray) (a1 : ByteArray) (r : Bool) (w : World) (htab : Aside0 (Rm.Tab w)) (h : endonymlaw2_WeighRises.f k a0 a1 = some r) :
  Calls Tryd.prog 8 #[.string a0, .string a1] w fun e w' => e = .returned (.bool r) ∧ Below w.heap.size w w' := by
 have HB := Aside0.mk (Below.refl w.heap.size w)
 have H : ((weigh_Parse.f k a0).bind fun bt592 => ((weigh_Parse.f k a1).bind fun bt594 => (if bt592.2 = 0 then (if bt594.2 = 0 then (if (a0.size : Int) > 40 then (endonymlaw2_WeighRises.j0 k a0 a1 bt592.1 bt594.1 true) else (if (a1.size : Int) > 40 then (endonymlaw2_WeighRises.j0 k a0 a1 bt592.1 bt594.1 true) else (if a0.toList = ([105, 110, 102] : List UInt8) then (endonymlaw2_WeighRises.j0 k a0 a1 bt592.1 bt594.1 true) else (if a0.toList = ([45, 105, 110, 102] : List UInt8) then (endonymlaw2_WeighRises.j0 k a0 a1 bt592.1 bt594.1 true) else (if a1.toList = ([105, 110, 102] : List UInt8) then (endonymlaw2_WeighRises.j0 k a0 a1 bt592.1 bt594.1 true) else (endonymlaw2_WeighRises.j0 k a0 a1 bt592.1 bt594.1 (a1.toList == ([45, 105, 110, 102] : List UInt8)))))))) else (endonymlaw2_WeighRises.j0 k a0 a1 bt592.1 bt594.1 true)) else (endonymlaw2_WeighRises.j0 k a0 a1 bt592.1 bt594.1 true)))) = some r := h
 clear h
 replace H := Option.bind_eq_some_iff.mp H
 obtain ⟨⟨t592, t593⟩, A30, H⟩ := H
 try dsimp only at H
 have A3 := Aside0.mk A30
 clear A30
 replace H := Option.bind_eq_some_iff.mp H
 obtain ⟨⟨t594, t595⟩, A40, H⟩ := H
 try dsimp only at H
 have A4 := Aside0.mk A40
 clear A40
 have HC5 := Aside0.mk H
 clear H
 go_enter Tryd.func8, Tryd.ntmps8
 go_upto_region 3 with (first | ((with_reducible refine gate_callee (f := 19) rfl ?_); refine goesL_ (some 12) rfl rfl Tryd.func19 (by kernel_rfl) rfl #[.string a0] rfl sqA ?_; (with_reducible refine (weigh_Parse.calls k a0 t592 t593 _ A3.out).mono ?_); rintro e w6 ⟨rfl, hb⟩; refine ⟨_, rfl, ?_⟩; have n0_ := Aside0.mk (below_step sqB hb); clear HB; have HB := n0_; clear n0_; (try clear hb); (try clear hb2); (try clear hk); (try clear hi)) | ((with_reducible refine gate_callee (f := 19) rfl ?_); refine goesL_ (some 17) rfl rfl Tryd.func19 (by kernel_rfl) rfl #[.string a1] rfl sqA ?_; (with_reducible refine (weigh_Parse.calls k a1 t594 t595 _ A4.out).mono ?_); rintro e w7 ⟨rfl, hb⟩; refine ⟨_, rfl, ?_⟩; have n0_ := Aside0.mk (below_step sqB hb); clear HB; have HB := n0_; clear n0_; (try clear hb); (try clear hb2); (try clear hk); (try clear hi)))
 (try simp only [Act.put, List.setIfInBounds_toArray, List.set_cons_zero, List.set_cons_succ])
 go_cut [51] (fun v51 wc => ∃ (kq : Nat) (x51_4 : Bool), v51 = .bool x51_4 ∧ Aside0 (endonymlaw2_WeighRises.j0 kq a0 a1 t592 t594 x51_4 = some r) ∧ Aside0 (kq ≤ k) ∧ Aside0 (Below w.heap.size w wc))
 case first =>
  have H := HC5.out
  clear HC5
  by_cases c8 : t593 = 0
  ·
   rw [if_pos c8] at H
   have c8b0 := beq_iff_eq.mpr c8
   have c8b1 := bne_eq_false_iff_eq.mpr c8
   clear c8
   (first | rw [c8b0] | (simp only [i64_w, i32_w]; rw [c8b0]) | skip)
   by_cases c9 : t595 = 0
   ·
    rw [if_pos c9] at H
    have c9b0 := beq_iff_eq.mpr c9
    have c9b1 := bne_eq_false_iff_eq.mpr c9
    clear c9
    by_cases c10 : (a0.size : Int) > 40
    ·
     rw [if_pos c10] at H
     have c10b0 := decide_eq_true c10
     have c10b1 : decide (40 < a0.size) = true := decide_eq_true (by omega)
     clear c10
     have H' := Aside0.mk H
     clear H
     go_wp2
     go_meet
     case rel => exact ⟨_, (true), sqE, H', ⟨by first | omega | exact Nat.le_refl _⟩, ⟨sqB⟩⟩
    ·
     rw [if_neg c10] at H
     have c10b0 := decide_eq_false c10
     have c10b1 : decide (40 < a0.size) = false := decide_eq_false (by omega)
     clear c10
     by_cases c11 : (a1.size : Int) > 40
     ·
      rw [if_pos c11] at H
      have c11b0 := decide_eq_true c11
      have c11b1 : decide (40 < a1.size) = true := decide_eq_true (by omega)
      clear c11
      have H' := Aside0.mk H
      clear H
      go_wp2
      go_meet
      case rel => exact ⟨_, (true), sqE, H', ⟨by first | omega | exact Nat.le_refl _⟩, ⟨sqB⟩⟩
     ·
      rw [if_neg c11] at H
      have c11b0 := decide_eq_false c11
      have c11b1 : decide (40 < a1.size) = false := decide_eq_false (by omega)
      clear c11
      by_cases c12 : a0.toList = ([105, 110, 102] : List UInt8)
      ·
       rw [if_pos c12] at H
       have c12b0 := beq_iff_eq.mpr c12
       have c12b1 := bne_eq_false_iff_eq.mpr c12
       clear c12
       have H' := Aside0.mk H
       clear H
       go_wp2
       go_meet
       case rel => exact ⟨_, (true), sqE, H', ⟨by first | omega | exact Nat.le_refl _⟩, ⟨sqB⟩⟩
      ·
       rw [if_neg c12] at H
       have c12b0 := beq_eq_false_iff_ne.mpr c12
       have c12b1 := bne_iff_ne.mpr c12
       by_cases c13 : a0.toList = ([45, 105, 110, 102] : List UInt8)
       ·
        rw [if_pos c13] at H
        have c13b0 := beq_iff_eq.mpr c13
        have c13b1 := bne_eq_false_iff_eq.mpr c13
        clear c13
        have H' := Aside0.mk H
        clear H
        go_wp2
        go_meet
        case rel => exact ⟨_, (true), sqE, H', ⟨by first | omega | exact Nat.le_refl _⟩, ⟨sqB⟩⟩
       ·
        rw [if_neg c13] at H
        have c13b0 := beq_eq_false_iff_ne.mpr c13
        have c13b1 := bne_iff_ne.mpr c13
        by_cases c14 : a1.toList = ([105, 110, 102] : List UInt8)
        ·
         rw [if_pos c14] at H
         have c14b0 := beq_iff_eq.mpr c14
         have c14b1 := bne_eq_false_iff_eq.mpr c14
         clear c14
         have H' := Aside0.mk H
         clear H
         go_wp2
         go_meet
         case rel => exact ⟨_, (true), sqE, H', ⟨by first | omega | exact Nat.le_refl _⟩, ⟨sqB⟩⟩
        ·
         rw [if_neg c14] at H
         have c14b0 := beq_eq_false_iff_ne.mpr c14
         have c14b1 := bne_iff_ne.mpr c14
         have H' := Aside0.mk H
         clear H
         go_wp2
         go_meet
         case rel => exact ⟨_, ((a1.toList == ([45, 105, 110, 102] : List UInt8))), sqE, H', ⟨by first | omega | exact Nat.le_refl _⟩, ⟨sqB⟩⟩
   ·
    rw [if_neg c9] at H
    have c9b0 := beq_eq_false_iff_ne.mpr c9
    have c9b1 := bne_iff_ne.mpr c9
    have H' := Aside0.mk H
    clear H
    go_wp2
    go_meet
    case rel => exact ⟨_, (true), sqE, H', ⟨by first | omega | exact Nat.le_refl _⟩, ⟨sqB⟩⟩
  ·
   rw [if_neg c8] at H
   have c8b0 := beq_eq_false_iff_ne.mpr c8
   have c8b1 := bne_iff_ne.mpr c8
   (first | rw [c8b0] | (simp only [i64_w, i32_w]; rw [c8b0]) | skip)
   have H' := Aside0.mk H
   clear H
   go_wp2
   go_meet
   case rel => exact ⟨_, (true), sqE, H', ⟨by first | omega | exact Nat.le_refl _⟩, ⟨sqB⟩⟩
 case rest =>
  clear HC5
  try clear c1
  try clear p2
  try clear c8
  try clear c8b0
  try clear c8b1
  try clear c9
  try clear c9b0
  try clear c9b1
  try clear c10
  try clear c10b0
  try clear c10b1
  try clear c11
  try clear c11b0
  try clear c11b1
  try clear c12
  try clear c12b0
  try clear c12b1
  try clear c13
  try clear c13b0
  try clear c13b1
  try clear c14
  try clear c14b0
  try clear c14b1
  obtain ⟨kq, x51_4, rfl, HA, HJ4, HB⟩ := hcut
  cases kq with
  | zero => exact absurd HA.out (by simp [endonymlaw2_WeighRises.j0])
  | succ kj4 =>
   have H := HA.out
   clear HA
   simp only [endonymlaw2_WeighRises.j0] at H
   by_cases c15 : x51_4 = true
   ·
    subst c15
    have H1 : ((endonymlaw2_told.f kj4).bind fun t596 => (some t596)) = some r := by rw [if_pos rfl] at H; exact H
    clear H
    have H := H1
    clear H1
    replace H := Option.bind_eq_some_iff.mp H
    obtain ⟨t596, A160, H⟩ := H
    try dsimp only at H
    have A16 := Aside0.mk A160
    clear A160
    obtain rfl := Option.some.inj H
    go_wp2_with (first | ((with_reducible refine gate_callee (f := 12) rfl ?_); refine goesL_ (some 52) rfl rfl Tryd.func12 (by kernel_rfl) rfl #[] rfl sqA ?_; (with_reducible refine (endonymlaw2_told.calls kj4  t596 _ ⟨htab.out.below sqB⟩ A16.out).mono ?_); rintro e w17 ⟨rfl, hb⟩; refine ⟨_, rfl, ?_⟩; have n0_ := Aside0.mk (below_step sqB hb); clear HB; have HB := n0_; clear n0_; (try clear hb); (try clear hb2); (try clear hk); (try clear hi)))
    go_ret
    exact ⟨sqE', sqB⟩
   ·
    replace c15 := Bool.eq_false_iff.mpr c15
    subst c15
    have H1 : ((endonymlaw2_against.f kj4 a0 a1).bind fun t597 => ((endonymlaw2_told.f kj4).bind fun t598 => (if t598 = true then (if t597 > 0 then (if t597 < 0 then (some true) else (some (FloatKind.f64.format.order t592 t594 == some .gt || FloatKind.f64.format.order t592 t594 == some .eq))) else (if (FloatKind.f64.format.order t592 t594 == some .lt || FloatKind.f64.format.order t592 t594 == some .eq) = true then (if t597 < 0 then (some true) else (some (FloatKind.f64.format.order t592 t594 == some .gt || FloatKind.f64.format.order t592 t594 == some .eq))) else (some false))) else (some false)))) = some r := by rw [if_neg (show ¬ (false = true) by decide)] at H; exact H
    clear H
    have H := H1
    clear H1
    replace H := Option.bind_eq_some_iff.mp H
    obtain ⟨t597, A180, H⟩ := H
    try dsimp only at H
    have A18 := Aside0.mk A180
    clear A180
    replace H := Option.bind_eq_some_iff.mp H
    obtain ⟨t598, A190, H⟩ := H
    try dsimp only at H
    have A19 := Aside0.mk A190
    clear A190
    by_cases c20 : t598 = true
    ·
     subst c20
     have H1 : (if t597 > 0 then (if t597 < 0 then (some true) else (some (FloatKind.f64.format.order t592 t594 == some .gt || FloatKind.f64.format.order t592 t594 == some .eq))) else (if (FloatKind.f64.format.order t592 t594 == some .lt || FloatKind.f64.format.order t592 t594 == some .eq) = true then (if t597 < 0 then (some true) else (some (FloatKind.f64.format.order t592 t594 == some .gt || FloatKind.f64.format.order t592 t594 == some .eq))) else (some false))) = some r := by rw [if_pos rfl] at H; exact H
     clear H
     have H := H1
     clear H1
     by_cases c21 : t597 > 0
     ·
      rw [if_pos c21] at H
      have c21b0 := decide_eq_true c21
      clear c21
      by_cases c22 : t597 < 0
      ·
       rw [if_pos c22] at H
       have c22b0 := decide_eq_true c22
       clear c22
       obtain rfl := Option.some.inj H
       go_wp2_with (first | ((with_reducible refine gate_callee (f := 21) rfl ?_); refine goesL_ (some 55) rfl rfl Tryd.func21 (by kernel_rfl) rfl #[.string a0, .string a1] rfl sqA ?_; (with_reducible refine (endonymlaw2_against.calls kj4 a0 a1 t597 _ A18.out).mono ?_); rintro e w23 ⟨rfl, hb⟩; refine ⟨_, rfl, ?_⟩; have n0_ := Aside0.mk (below_step sqB hb); clear HB; have HB := n0_; clear n0_; (try clear hb); (try clear hb2); (try clear hk); (try clear hi)) | ((with_reducible refine gate_callee (f := 12) rfl ?_); refine goesL_ (some 56) rfl rfl Tryd.func12 (by kernel_rfl) rfl #[] rfl sqA ?_; (with_reducible refine (endonymlaw2_told.calls kj4  true _ ⟨htab.out.below sqB⟩ A19.out).mono ?_); rintro e w24 ⟨rfl, hb⟩; refine ⟨_, rfl, ?_⟩; have n0_ := Aside0.mk (below_step sqB hb); clear HB; have HB := n0_; clear n0_; (try clear hb); (try clear hb2); (try clear hk); (try clear hi)))
       go_ret
       exact ⟨sqE', sqB⟩
      ·
       rw [if_neg c22] at H
       have c22b0 := decide_eq_false c22
       clear c22
       obtain rfl := Option.some.inj H
       go_wp2_with (first | ((with_reducible refine gate_callee (f := 21) rfl ?_); refine goesL_ (some 55) rfl rfl Tryd.func21 (by kernel_rfl) rfl #[.string a0, .string a1] rfl sqA ?_; (with_reducible refine (endonymlaw2_against.calls kj4 a0 a1 t597 _ A18.out).mono ?_); rintro e w25 ⟨rfl, hb⟩; refine ⟨_, rfl, ?_⟩; have n0_ := Aside0.mk (below_step sqB hb); clear HB; have HB := n0_; clear n0_; (try clear hb); (try clear hb2); (try clear hk); (try clear hi)) | ((with_reducible refine gate_callee (f := 12) rfl ?_); refine goesL_ (some 56) rfl rfl Tryd.func12 (by kernel_rfl) rfl #[] rfl sqA ?_; (with_reducible refine (endonymlaw2_told.calls kj4  true _ ⟨htab.out.below sqB⟩ A19.out).mono ?_); rintro e w26 ⟨rfl, hb⟩; refine ⟨_, rfl, ?_⟩; have n0_ := Aside0.mk (below_step sqB hb); clear HB; have HB := n0_; clear n0_; (try clear hb); (try clear hb2); (try clear hk); (try clear hi)))
       go_ret
       exact ⟨sqE', sqB⟩
     ·
      rw [if_neg c21] at H
      have c21b0 := decide_eq_false c21
      clear c21
      by_cases c27 : (FloatKind.f64.format.order t592 t594 == some .lt || FloatKind.f64.format.order t592 t594 == some .eq) = true
      ·
       rw [if_pos c27] at H
       have c27b0 : (FloatKind.f64.format.order t592 t594 == some .lt || FloatKind.f64.format.order t592 t594 == some .eq) = true := c27
       (try (have c27b1 : decide (FloatKind.f64.format.order t592 t594 = some .lt || FloatKind.f64.format.order t592 t594 == some .eq) = true := by simpa using c27))
       (try (have c27b2 : (FloatKind.f64.format.order t592 t594 == some .lt || FloatKind.f64.format.order t592 t594 == some .eq) = true := by simpa using c27))
       clear c27
       by_cases c28 : t597 < 0
       ·
        rw [if_pos c28] at H
        have c28b0 := decide_eq_true c28
        clear c28
        obtain rfl := Option.some.inj H
        go_wp2_with (first | ((with_reducible refine gate_callee (f := 21) rfl ?_); refine goesL_ (some 55) rfl rfl Tryd.func21 (by kernel_rfl) rfl #[.string a0, .string a1] rfl sqA ?_; (with_reducible refine (endonymlaw2_against.calls kj4 a0 a1 t597 _ A18.out).mono ?_); rintro e w29 ⟨rfl, hb⟩; refine ⟨_, rfl, ?_⟩; have n0_ := Aside0.mk (below_step sqB hb); clear HB; have HB := n0_; clear n0_; (try clear hb); (try clear hb2); (try clear hk); (try clear hi)) | ((with_reducible refine gate_callee (f := 12) rfl ?_); refine goesL_ (some 56) rfl rfl Tryd.func12 (by kernel_rfl) rfl #[] rfl sqA ?_; (with_reducible refine (endonymlaw2_told.calls kj4  true _ ⟨htab.out.below sqB⟩ A19.out).mono ?_); rintro e w30 ⟨rfl, hb⟩; refine ⟨_, rfl, ?_⟩; have n0_ := Aside0.mk (below_step sqB hb); clear HB; have HB := n0_; clear n0_; (try clear hb); (try clear hb2); (try clear hk); (try clear hi)))
        go_ret
        exact ⟨sqE', sqB⟩
       ·
        rw [if_neg c28] at H
        have c28b0 := decide_eq_false c28
        clear c28
        obtain rfl := Option.some.inj H
        go_wp2_with (first | ((with_reducible refine gate_callee (f := 21) rfl ?_); refine goesL_ (some 55) rfl rfl Tryd.func21 (by kernel_rfl) rfl #[.string a0, .string a1] rfl sqA ?_; (with_reducible refine (endonymlaw2_against.calls kj4 a0 a1 t597 _ A18.out).mono ?_); rintro e w31 ⟨rfl, hb⟩; refine ⟨_, rfl, ?_⟩; have n0_ := Aside0.mk (below_step sqB hb); clear HB; have HB := n0_; clear n0_; (try clear hb); (try clear hb2); (try clear hk); (try clear hi)) | ((with_reducible refine gate_callee (f := 12) rfl ?_); refine goesL_ (some 56) rfl rfl Tryd.func12 (by kernel_rfl) rfl #[] rfl sqA ?_; (with_reducible refine (endonymlaw2_told.calls kj4  true _ ⟨htab.out.below sqB⟩ A19.out).mono ?_); rintro e w32 ⟨rfl, hb⟩; refine ⟨_, rfl, ?_⟩; have n0_ := Aside0.mk (below_step sqB hb); clear HB; have HB := n0_; clear n0_; (try clear hb); (try clear hb2); (try clear hk); (try clear hi)))
        go_ret
        exact ⟨sqE', sqB⟩
      ·
       rw [if_neg c27] at H
       have c27b0 : (FloatKind.f64.format.order t592 t594 == some .lt || FloatKind.f64.format.order t592 t594 == some .eq) = false := by simpa using c27
       (try (have c27b1 : decide (FloatKind.f64.format.order t592 t594 = some .lt || FloatKind.f64.format.order t592 t594 == some .eq) = false := by simpa using c27))
       (try (have c27b2 : (FloatKind.f64.format.order t592 t594 == some .lt || FloatKind.f64.format.order t592 t594 == some .eq) = false := by simpa using c27))
       (try (have c27b3 : ¬ (FloatKind.f64.format.order t592 t594 = some .lt || FloatKind.f64.format.order t592 t594 == some .eq) := by simpa using c27))
       clear c27
       obtain rfl := Option.some.inj H
       go_wp2_with (first | ((with_reducible refine gate_callee (f := 21) rfl ?_); refine goesL_ (some 55) rfl rfl Tryd.func21 (by kernel_rfl) rfl #[.string a0, .string a1] rfl sqA ?_; (with_reducible refine (endonymlaw2_against.calls kj4 a0 a1 t597 _ A18.out).mono ?_); rintro e w33 ⟨rfl, hb⟩; refine ⟨_, rfl, ?_⟩; have n0_ := Aside0.mk (below_step sqB hb); clear HB; have HB := n0_; clear n0_; (try clear hb); (try clear hb2); (try clear hk); (try clear hi)) | ((with_reducible refine gate_callee (f := 12) rfl ?_); refine goesL_ (some 56) rfl rfl Tryd.func12 (by kernel_rfl) rfl #[] rfl sqA ?_; (with_reducible refine (endonymlaw2_told.calls kj4  true _ ⟨htab.out.below sqB⟩ A19.out).mono ?_); rintro e w34 ⟨rfl, hb⟩; refine ⟨_, rfl, ?_⟩; have n0_ := Aside0.mk (below_step sqB hb); clear HB; have HB := n0_; clear n0_; (try clear hb); (try clear hb2); (try clear hk); (try clear hi)))
       go_ret
       exact ⟨sqE', sqB⟩
    ·
     replace c20 := Bool.eq_false_iff.mpr c20
     subst c20
     have H1 : (some false) = some r := by rw [if_neg (show ¬ (false = true) by decide)] at H; exact H
     clear H
     have H := H1
     clear H1
     obtain rfl := Option.some.inj H
     go_wp2_with (first | ((with_reducible refine gate_callee (f := 21) rfl ?_); refine goesL_ (some 55) rfl rfl Tryd.func21 (by kernel_rfl) rfl #[.string a0, .string a1] rfl sqA ?_; (with_reducible refine (endonymlaw2_against.calls kj4 a0 a1 t597 _ A18.out).mono ?_); rintro e w35 ⟨rfl, hb⟩; refine ⟨_, rfl, ?_⟩; have n0_ := Aside0.mk (below_step sqB hb); clear HB; have HB := n0_; clear n0_; (try clear hb); (try clear hb2); (try clear hk); (try clear hi)) | ((with_reducible refine gate_callee (f := 12) rfl ?_); refine goesL_ (some 56) rfl rfl Tryd.func12 (by kernel_rfl) rfl #[] rfl sqA ?_; (with_reducible refine (endonymlaw2_told.calls kj4  false _ ⟨htab.out.below sqB⟩ A19.out).mono ?_); rintro e w36 ⟨rfl, hb⟩; refine ⟨_, rfl, ?_⟩; have n0_ := Aside0.mk (below_step sqB hb); clear HB; have HB := n0_; clear n0_; (try clear hb); (try clear hb2); (try clear hk); (try clear hi)))
     go_ret
     exact ⟨sqE', sqB⟩

end Go.Proofs.YtfmjdoofopamkaaDoor.W
