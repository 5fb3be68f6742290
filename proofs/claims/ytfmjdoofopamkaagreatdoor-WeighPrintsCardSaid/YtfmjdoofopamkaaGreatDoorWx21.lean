import Derived.Test.YtfmjdoofopamkaaGreatDoorWx0
import Derived.Test.YtfmjdoofopamkaaGreatDoorWx1
import Derived.Test.YtfmjdoofopamkaaGreatDoorWx4
import Derived.Test.YtfmjdoofopamkaaGreatDoorWx19
import Derived.Test.YtfmjdoofopamkaaGreatDoorWx20
namespace Go.Proofs.YtfmjdoofopamkaaGreatDoor.W
open Go.RowKit Go.Proofs.YtfmjdoofopamkaaGreatDoorW.PrintWords Go.Proofs.YtfmjdoofopamkaaGreatDoorW.PrintLast Go.Proofs.YtfmjdoofopamkaaGreatDoorW.PrintMore
set_option maxHeartbeats 8000000
set_option maxRecDepth 100000
attribute [local go_sem] max2_int min2_int max_two min_two max_three min_three max_four min_four
set_option linter.unusedVariables false
set_option linter.unusedSimpArgs false
mutual
def w2_Exact.l0 : Nat → List Nat → Bool → Bool → List Nat → Int → Int → Option (Nat)
 | 0, _, _, _, _, _, _ => none
 | k + 1, x3, x4, x5, x8, x9, x10 => if x10 < x9 then (if 0 ≤ x10 then (if x10 < (x8.length : Int) then (if (FloatKind.f64.format.order (rdOf 0 x8 x10) (rdOf 0 x8 x10) != some .eq) = true then ((api_Float.f 9221120237041090560).bind fun t639 => (some t639)) else ((math_IsInf.f (rdOf 0 x8 x10) 1).bind fun t640 => (if t640 = true then (w2_Exact.l0 k x3 true x5 x8 x9 (wrap64 (x10 + 1))) else ((math_IsInf.f (rdOf 0 x8 x10) (-1)).bind fun t641 => (if t641 = true then (w2_Exact.l0 k x3 x4 true x8 x9 (wrap64 (x10 + 1))) else (if x3.length < 17592186044416 then (w2_Exact.l0 k (x3 ++ [rdOf 0 x8 x10]) x4 x5 x8 x9 (wrap64 (x10 + 1))) else (none))))))) else (none)) else (none)) else (if x4 = true then (w2_Exact.j1 k x3 x4 x5 x5) else (w2_Exact.j1 k x3 x4 x5 false))
def w2_Exact.j1 : Nat → List Nat → Bool → Bool → Bool → Option (Nat)
 | 0, _, _, _, _ => none
 | k + 1, x3, x4, x5, x30 => if x30 = true then ((api_Float.f 9221120237041090560).bind fun t645 => (some t645)) else (if x4 = true then ((math_Inf.f 1).bind fun t646 => (some t646)) else (if x5 = true then ((math_Inf.f (-1)).bind fun t647 => (some t647)) else ((w2_shared.f k x3 1).bind fun t648 => (some t648))))
end
def w2_Exact.f (k : Nat) (l0 : List Nat) : Option (Nat) := w2_Exact.l0 k ([] : List Nat) false false l0 (l0.length : Int) 0
theorem w2_Exact.mono_l : ∀ k, (∀ y0 y1 y2 y3 y4 y5, LeO (w2_Exact.l0 k y0 y1 y2 y3 y4 y5) (w2_Exact.l0 (k + 1) y0 y1 y2 y3 y4 y5)) ∧ (∀ y0 y1 y2 y3, LeO (w2_Exact.j1 k y0 y1 y2 y3) (w2_Exact.j1 (k + 1) y0 y1 y2 y3))
 | 0 => ⟨fun _ _ _ _ _ _ r h => by simp [w2_Exact.l0] at h, fun _ _ _ _ r h => by simp [w2_Exact.j1] at h⟩
 | k + 1 => by
  obtain ⟨ih0, ih1⟩ := w2_Exact.mono_l k
  refine ⟨?_, ?_⟩
  ·intro y0 y1 y2 y3 y4 y5
   unfold w2_Exact.l0
   repeat' first | (with_reducible first | apply ih0 | apply ih1 | apply w2_shared.mono | apply LeO.refl | apply LeO.none | refine LeO.ite ?_ ?_ | refine LeO.bind ?_ (fun _ => ?_)) | apply LeO.none | refine LeO.ite ?_ ?_ | refine LeO.bind ?_ (fun _ => ?_)
  intro y0 y1 y2 y3
  unfold w2_Exact.j1
  repeat' first | (with_reducible first | apply ih0 | apply ih1 | apply w2_shared.mono | apply LeO.refl | apply LeO.none | refine LeO.ite ?_ ?_ | refine LeO.bind ?_ (fun _ => ?_)) | apply LeO.none | refine LeO.ite ?_ ?_ | refine LeO.bind ?_ (fun _ => ?_)
theorem w2_Exact.mono : ∀ a0 k, LeO (w2_Exact.f k a0) (w2_Exact.f (k + 1) a0) := by
 intro a0 k
 obtain ⟨ih0, ih1⟩ := w2_Exact.mono_l k
 unfold w2_Exact.f
 repeat' first | (with_reducible first | apply ih0 | apply ih1 | apply w2_shared.mono | apply LeO.refl | apply LeO.none | refine LeO.ite ?_ ?_ | refine LeO.bind ?_ (fun _ => ?_)) | apply LeO.none | refine LeO.ite ?_ ?_ | refine LeO.bind ?_ (fun _ => ?_)
theorem w2_Exact.calls (k : Nat) (A0 : Option Addr) (c0 : Nat) (l0 : List Nat) (r : Nat) (w : World) (hr0 : Kd.C Kd.flt w A0 l0.length l0) (hc0 : l0.length ≤ c0) (h : w2_Exact.f k l0 = some r) :
  Calls Tryz.prog 17 #[.slice A0 l0.length c0] w fun e w' => e = .returned (.float .f64 r) ∧ Below w.heap.size w w' := by
 have HR0 := Sd.mk hr0
 have HC0 := Sd.mk hc0
 clear hr0 hc0
 have HB := Sd.mk (Below.refl w.heap.size w)
 have H : (w2_Exact.l0 k ([] : List Nat) false false l0 (l0.length : Int) 0) = some r := h
 clear h
 have H' := Sd.mk H
 clear H
 go_enter Tryz.func17, Tryz.ntmps17
 go_wp2
 go_loopg [3, 4, 5, 10] k (fun kq v3 v4 v5 v10 w' => ∃ (x3_1 : List Nat) (x4_1 : Bool) (x5_1 : Bool) (x10_1 : Int), v4 = .bool x4_1 ∧ v5 = .bool x5_1 ∧ v10 = .int .i64 x10_1 ∧ Sd (w2_Exact.l0 kq x3_1 x4_1 x5_1 l0 (l0.length : Int) x10_1 = some r) ∧ Sd (kq ≤ k) ∧ Sd (Kd.R Kd.flt 22 w' w.heap.size (fun _ => True) v3 x3_1) ∧ Sd (Below w.heap.size w w'))
 case atStart => exact ⟨(([] : List Nat)), (false), (false), (0), sqE, sqE, sqE, H', ⟨Nat.le_refl _⟩, ⟨by first | exact Kd.R_nil _ _ _ _ _ | exact Kd.N_nil _ _ _ _ _ | exact Kd.V_nil _ _ _ _ _ | exact Kd.Q_nil _ _ _ _ _ | exact Kd.S_nil _ _ _ _ _⟩, ⟨sqB⟩⟩
 case round =>
  clear H'
  try clear c1
  obtain ⟨x3_1, x4_1, x5_1, x10_1, rfl, rfl, rfl, HA, HK1, HO_3, HB⟩ := hrel
  cases gk with
  | zero => exact absurd HA.out (by simp [w2_Exact.l0])
  | succ k1 =>
   have H := HA.out
   clear HA
   simp only [w2_Exact.l0] at H
   by_cases c2 : x10_1 < (l0.length : Int)
   ·rw [if_pos c2] at H
    have c2b0 := decide_eq_true c2
    clear c2
    by_cases c3 : 0 ≤ x10_1
    case neg => rw [if_neg c3] at H; exact absurd H (by simp)
    rw [if_pos c3] at H
    have c3b0 := decide_eq_true c3
    clear c3
    by_cases c4 : x10_1 < (l0.length : Int)
    case neg => rw [if_neg c4] at H; exact absurd H (by simp)
    rw [if_pos c4] at H
    have c4b0 := decide_eq_true c4
    clear c4
    by_cases c5 : (FloatKind.f64.format.order (rdOf 0 l0 x10_1) (rdOf 0 l0 x10_1) != some .eq) = true
    ·rw [if_pos c5] at H
     have c5b0 : (FloatKind.f64.format.order (rdOf 0 l0 x10_1) (rdOf 0 l0 x10_1) != some .eq) = true := c5
     (try (have c5b1 : decide (FloatKind.f64.format.order (rdOf 0 l0 x10_1) (rdOf 0 l0 x10_1) = some .eq) = false := by simpa using c5))
     (try (have c5b2 : (FloatKind.f64.format.order (rdOf 0 l0 x10_1) (rdOf 0 l0 x10_1) == some .eq) = false := by simpa using c5))
     (try (have c5b3 : ¬ (FloatKind.f64.format.order (rdOf 0 l0 x10_1) (rdOf 0 l0 x10_1) = some .eq) := by simpa using c5))
     clear c5
     obtain ⟨t639, A6, H⟩ := sqO H
     try dsimp only at H
     obtain rfl := Option.some.inj H
     have p638 : 0 ≤ (x10_1 : Int) := sqD
     have q638 : x10_1 < (l0.length : Int) := sqD
     obtain ⟨ad638, e638, hx638_0⟩ := Kd.at_flt HR0.out x10_1 p638 q638
     cases e638
     replace hx638_0 := (HB.out.cell (World.block_lt_of_cell? w _ hx638_0)).trans hx638_0
     replace p638 := eq_true p638
     replace q638 := eq_true q638
     go_wp2_with (first | ((with_reducible refine gcl (f := 12) rfl ?_); refine gL (some 22) rfl rfl Tryz.func12 (by kernel_rfl) rfl #[.int .u64 9221120237041090560] rfl sqA ?_; (with_reducible refine (api_Float.calls 9221120237041090560 t639 _ A6.out).mono ?_); rintro e w' ⟨rfl, ⟨nd, rfl⟩⟩; refine ⟨_, rfl, ?_⟩))
     go_ret
     exact ⟨sqE', sqB⟩
    rw [if_neg c5] at H
    have c5b0 : (FloatKind.f64.format.order (rdOf 0 l0 x10_1) (rdOf 0 l0 x10_1) != some .eq) = false := by simpa using c5
    (try (have c5b1 : decide (FloatKind.f64.format.order (rdOf 0 l0 x10_1) (rdOf 0 l0 x10_1) = some .eq) = true := by simpa using c5))
    (try (have c5b2 : (FloatKind.f64.format.order (rdOf 0 l0 x10_1) (rdOf 0 l0 x10_1) == some .eq) = true := by simpa using c5))
    clear c5
    obtain ⟨t640, A7, H⟩ := sqO H
    try dsimp only at H
    by_cases c8 : t640 = true
    ·subst c8
     have H1 : (w2_Exact.l0 k1 x3_1 true x5_1 l0 (l0.length : Int) (wrap64 (x10_1 + 1))) = some r := by rw [if_pos rfl] at H; exact H
     clear H
     have H := H1
     clear H1
     have H' := Sd.mk H
     clear H
     have p638 : 0 ≤ (x10_1 : Int) := sqD
     have q638 : x10_1 < (l0.length : Int) := sqD
     obtain ⟨ad638, e638, hx638_0⟩ := Kd.at_flt HR0.out x10_1 p638 q638
     cases e638
     replace hx638_0 := (HB.out.cell (World.block_lt_of_cell? w _ hx638_0)).trans hx638_0
     replace p638 := eq_true p638
     replace q638 := eq_true q638
     go_wp2_with (first | ((with_reducible refine gcl (f := 30) rfl ?_); refine gL (some 25) rfl rfl Tryz.func30 (by kernel_rfl) rfl #[.float .f64 (rdOf 0 l0 x10_1), .int .i64 1] rfl sqA ?_; (with_reducible refine (math_IsInf.calls (rdOf 0 l0 x10_1) 1 true _ A7.out).mono ?_); rintro e w' ⟨rfl, ⟨nd, rfl⟩⟩; refine ⟨_, rfl, ?_⟩))
     go_roundg k1
     case measure => have := HK1.out; omega
     case rel => exact ⟨(x3_1), (true), (x5_1), (wrap64 (x10_1 + 1)), sqE, sqE, sqE, H', ⟨by have := HK1.out; omega⟩, ⟨sqR HO_3.out⟩, ⟨sqB⟩⟩
    replace c8 := Bool.eq_false_iff.mpr c8
    subst c8
    have H1 : ((math_IsInf.f (rdOf 0 l0 x10_1) (-1)).bind fun t641 => (if t641 = true then (w2_Exact.l0 k1 x3_1 x4_1 true l0 (l0.length : Int) (wrap64 (x10_1 + 1))) else (if x3_1.length < 17592186044416 then (w2_Exact.l0 k1 (x3_1 ++ [rdOf 0 l0 x10_1]) x4_1 x5_1 l0 (l0.length : Int) (wrap64 (x10_1 + 1))) else (none)))) = some r := by rw [if_neg (show ¬ (false = true) by decide)] at H; exact H
    clear H
    have H := H1
    clear H1
    obtain ⟨t641, A9, H⟩ := sqO H
    try dsimp only at H
    by_cases c10 : t641 = true
    ·subst c10
     have H1 : (w2_Exact.l0 k1 x3_1 x4_1 true l0 (l0.length : Int) (wrap64 (x10_1 + 1))) = some r := by rw [if_pos rfl] at H; exact H
     clear H
     have H := H1
     clear H1
     have H' := Sd.mk H
     clear H
     have p638 : 0 ≤ (x10_1 : Int) := sqD
     have q638 : x10_1 < (l0.length : Int) := sqD
     obtain ⟨ad638, e638, hx638_0⟩ := Kd.at_flt HR0.out x10_1 p638 q638
     cases e638
     replace hx638_0 := (HB.out.cell (World.block_lt_of_cell? w _ hx638_0)).trans hx638_0
     replace p638 := eq_true p638
     replace q638 := eq_true q638
     go_wp2_with (first | ((with_reducible refine gcl (f := 30) rfl ?_); refine gL (some 25) rfl rfl Tryz.func30 (by kernel_rfl) rfl #[.float .f64 (rdOf 0 l0 x10_1), .int .i64 1] rfl sqA ?_; (with_reducible refine (math_IsInf.calls (rdOf 0 l0 x10_1) 1 false _ A7.out).mono ?_); rintro e w' ⟨rfl, ⟨nd, rfl⟩⟩; refine ⟨_, rfl, ?_⟩) | ((with_reducible refine gcl (f := 30) rfl ?_); refine gL (some 28) rfl rfl Tryz.func30 (by kernel_rfl) rfl #[.float .f64 (rdOf 0 l0 x10_1), .int .i64 (-1)] rfl sqA ?_; (with_reducible refine (math_IsInf.calls (rdOf 0 l0 x10_1) (-1) true _ A9.out).mono ?_); rintro e w' ⟨rfl, ⟨nd, rfl⟩⟩; refine ⟨_, rfl, ?_⟩))
     go_roundg k1
     case measure => have := HK1.out; omega
     case rel => exact ⟨(x3_1), (x4_1), (true), (wrap64 (x10_1 + 1)), sqE, sqE, sqE, H', ⟨by have := HK1.out; omega⟩, ⟨sqR HO_3.out⟩, ⟨sqB⟩⟩
    replace c10 := Bool.eq_false_iff.mpr c10
    subst c10
    have H1 : (if x3_1.length < 17592186044416 then (w2_Exact.l0 k1 (x3_1 ++ [rdOf 0 l0 x10_1]) x4_1 x5_1 l0 (l0.length : Int) (wrap64 (x10_1 + 1))) else (none)) = some r := by rw [if_neg (show ¬ (false = true) by decide)] at H; exact H
    clear H
    have H := H1
    clear H1
    by_cases c11 : x3_1.length < 17592186044416
    case neg => rw [if_neg c11] at H; exact absurd H (by simp)
    rw [if_pos c11] at H
    have LMc11 := Sd.mk c11
    clear c11
    obtain ⟨y642, hy642⟩ : ∃ y_ : List Nat, y_ = (x3_1 ++ [rdOf 0 l0 x10_1]) := ⟨_, rfl⟩
    replace H : (w2_Exact.l0 k1 y642 x4_1 x5_1 l0 (l0.length : Int) (wrap64 (x10_1 + 1))) = some r := by first | (rw [hy642]; with_reducible exact H) | (have H2_ := (Option.bind_some _ _).symm.trans H; rw [hy642]; with_reducible exact H2_) | (have H2_ := (Option.bind_some _ _).symm.trans H; with_reducible exact H2_) | with_reducible exact H | (rw [hy642]; exact H) | exact H
    have Ny642 := Sd.mk hy642
    clear hy642
    have H' := Sd.mk H
    clear H
    have p638 : 0 ≤ (x10_1 : Int) := sqD
    have q638 : x10_1 < (l0.length : Int) := sqD
    obtain ⟨ad638, e638, hx638_0⟩ := Kd.at_flt HR0.out x10_1 p638 q638
    cases e638
    replace hx638_0 := (HB.out.cell (World.block_lt_of_cell? w _ hx638_0)).trans hx638_0
    replace p638 := eq_true p638
    replace q638 := eq_true q638
    go_wp2_with (first | ((with_reducible refine gcl (f := 30) rfl ?_); refine gL (some 25) rfl rfl Tryz.func30 (by kernel_rfl) rfl #[.float .f64 (rdOf 0 l0 x10_1), .int .i64 1] rfl sqA ?_; (with_reducible refine (math_IsInf.calls (rdOf 0 l0 x10_1) 1 false _ A7.out).mono ?_); rintro e w' ⟨rfl, ⟨nd, rfl⟩⟩; refine ⟨_, rfl, ?_⟩) | ((with_reducible refine gcl (f := 30) rfl ?_); refine gL (some 28) rfl rfl Tryz.func30 (by kernel_rfl) rfl #[.float .f64 (rdOf 0 l0 x10_1), .int .i64 (-1)] rfl sqA ?_; (with_reducible refine (math_IsInf.calls (rdOf 0 l0 x10_1) (-1) false _ A9.out).mono ?_); rintro e w' ⟨rfl, ⟨nd, rfl⟩⟩; refine ⟨_, rfl, ?_⟩) | ((with_reducible refine gate_builtin (b := .append) (xs := #[.tmp 14, .tmp 16]) rfl ?_); at_builtin; refine Kd.R_append Kd.flt (w0 := w) w.heap.size rfl (.tmp 14) (.tmp 16) 37 22 (.float .f64 0) 8 rfl Tryz.underlying37 info22 rfl (by decide) (by omega) u3 x3_1 (rdOf 0 l0 x10_1) [.float .f64 (rdOf 0 l0 x10_1)] (fun _ => True) (fun _ => False) rfl rfl ?aP (fun _ hk => hk.elim) ?aF ?aO ?aB ?aS ?aL ?_; (case aP => exact rfl); (case aB => exact sqB); (case aF => exact (fun _ _ => trivial)); (case aO => exact (sqR HO_3.out)); (case aS => exact (bsz sqB)); (case aL => have := LMc11.out; omega); intro v643 w12 ho hb hg hat; rw [← Ny642.out] at ho; have n0_ := Sd.mk (hb); have n1_ := Sd.mk (ho); clear HB; clear HO_3; have HB := n0_; have HO644 := n1_; clear n0_ n1_; clear ho hb hg hat))
    go_roundg k1
    case measure => have := HK1.out; omega
    case rel => exact ⟨(y642), (x4_1), (x5_1), (wrap64 (x10_1 + 1)), sqE, sqE, sqE, H', ⟨by have := HK1.out; omega⟩, ⟨sqR HO644.out⟩, ⟨sqB⟩⟩
   rw [if_neg c2] at H
   have c2b0 := decide_eq_false c2
   clear c2
   have HC13 := Sd.mk H
   clear H
   go_upto_region 14 with (fail)
   go_cut [30] (fun v30 wc => ∃ (kq : Nat) (x30_12 : Bool), v30 = .bool x30_12 ∧ Sd (w2_Exact.j1 kq x3_1 x4_1 x5_1 x30_12 = some r) ∧ Sd (kq ≤ k1) ∧ Sd (Kd.R Kd.flt 22 wc w.heap.size (fun _ => True) u3 x3_1) ∧ Sd (Below w.heap.size w wc))
   case first =>
    have H := HC13.out
    clear HC13
    by_cases c14 : x4_1 = true
    ·subst c14
     have H1 : (w2_Exact.j1 k1 x3_1 true x5_1 x5_1) = some r := by rw [if_pos rfl] at H; exact H
     clear H
     have H := H1
     clear H1
     have H' := Sd.mk H
     clear H
     go_wp2
     go_meet
     case rel => exact ⟨_, (x5_1), sqE, H', ⟨by have := HK1.out; first | omega | exact Nat.le_refl _⟩, ⟨sqR HO_3.out⟩, ⟨sqB⟩⟩
    replace c14 := Bool.eq_false_iff.mpr c14
    subst c14
    have H1 : (w2_Exact.j1 k1 x3_1 false x5_1 false) = some r := by rw [if_neg (show ¬ (false = true) by decide)] at H; exact H
    clear H
    have H := H1
    clear H1
    have H' := Sd.mk H
    clear H
    go_wp2
    go_meet
    case rel => exact ⟨_, (false), sqE, H', ⟨by have := HK1.out; first | omega | exact Nat.le_refl _⟩, ⟨sqR HO_3.out⟩, ⟨sqB⟩⟩
   case rest =>
    clear HC13
    try clear c1
    try clear c2
    try clear c2b0
    try clear p2
    try clear c3
    try clear c3b0
    try clear c4
    try clear c4b0
    try clear c5
    try clear c5b0
    try clear c5b1
    try clear c5b2
    try clear p6
    try clear q6
    try clear hx6
    try clear c8
    try clear c10
    try clear c11
    try clear c12
    try clear c14
    try clear hx638_0
    try clear p638
    try clear q638
    obtain ⟨kq, x30_12, rfl, HA, HJ12, HO_3, HB⟩ := hcut
    cases kq with
    | zero => exact absurd HA.out (by simp [w2_Exact.j1])
    | succ kj12 =>
     have H := HA.out
     clear HA
     simp only [w2_Exact.j1] at H
     by_cases c15 : x30_12 = true
     ·subst c15
      have H1 : ((api_Float.f 9221120237041090560).bind fun t645 => (some t645)) = some r := by rw [if_pos rfl] at H; exact H
      clear H
      have H := H1
      clear H1
      obtain ⟨t645, A16, H⟩ := sqO H
      try dsimp only at H
      obtain rfl := Option.some.inj H
      go_wp2_with (first | ((with_reducible refine gcl (f := 12) rfl ?_); refine gL (some 35) rfl rfl Tryz.func12 (by kernel_rfl) rfl #[.int .u64 9221120237041090560] rfl sqA ?_; (with_reducible refine (api_Float.calls 9221120237041090560 t645 _ A16.out).mono ?_); rintro e w' ⟨rfl, ⟨nd, rfl⟩⟩; refine ⟨_, rfl, ?_⟩))
      go_ret
      exact ⟨sqE', sqB⟩
     replace c15 := Bool.eq_false_iff.mpr c15
     subst c15
     have H1 : (if x4_1 = true then ((math_Inf.f 1).bind fun t646 => (some t646)) else (if x5_1 = true then ((math_Inf.f (-1)).bind fun t647 => (some t647)) else ((w2_shared.f kj12 x3_1 1).bind fun t648 => (some t648)))) = some r := by rw [if_neg (show ¬ (false = true) by decide)] at H; exact H
     clear H
     have H := H1
     clear H1
     by_cases c17 : x4_1 = true
     ·subst c17
      have H1 : ((math_Inf.f 1).bind fun t646 => (some t646)) = some r := by rw [if_pos rfl] at H; exact H
      clear H
      have H := H1
      clear H1
      obtain ⟨t646, A18, H⟩ := sqO H
      try dsimp only at H
      obtain rfl := Option.some.inj H
      go_wp2_with (first | ((with_reducible refine gcl (f := 24) rfl ?_); refine gL (some 38) rfl rfl Tryz.func24 (by kernel_rfl) rfl #[.int .i64 1] rfl sqA ?_; (with_reducible refine (math_Inf.calls 1 t646 _ A18.out).mono ?_); rintro e w' ⟨rfl, ⟨nd, rfl⟩⟩; refine ⟨_, rfl, ?_⟩))
      go_ret
      exact ⟨sqE', sqB⟩
     replace c17 := Bool.eq_false_iff.mpr c17
     subst c17
     have H1 : (if x5_1 = true then ((math_Inf.f (-1)).bind fun t647 => (some t647)) else ((w2_shared.f kj12 x3_1 1).bind fun t648 => (some t648))) = some r := by rw [if_neg (show ¬ (false = true) by decide)] at H; exact H
     clear H
     have H := H1
     clear H1
     by_cases c19 : x5_1 = true
     ·subst c19
      have H1 : ((math_Inf.f (-1)).bind fun t647 => (some t647)) = some r := by rw [if_pos rfl] at H; exact H
      clear H
      have H := H1
      clear H1
      obtain ⟨t647, A20, H⟩ := sqO H
      try dsimp only at H
      obtain rfl := Option.some.inj H
      go_wp2_with (first | ((with_reducible refine gcl (f := 24) rfl ?_); refine gL (some 41) rfl rfl Tryz.func24 (by kernel_rfl) rfl #[.int .i64 (-1)] rfl sqA ?_; (with_reducible refine (math_Inf.calls (-1) t647 _ A20.out).mono ?_); rintro e w' ⟨rfl, ⟨nd, rfl⟩⟩; refine ⟨_, rfl, ?_⟩))
      go_ret
      exact ⟨sqE', sqB⟩
     replace c19 := Bool.eq_false_iff.mpr c19
     subst c19
     have H1 : ((w2_shared.f kj12 x3_1 1).bind fun t648 => (some t648)) = some r := by rw [if_neg (show ¬ (false = true) by decide)] at H; exact H
     clear H
     have H := H1
     clear H1
     obtain ⟨t648, A21, H⟩ := sqO H
     try dsimp only at H
     obtain rfl := Option.some.inj H
     obtain ⟨Ao22, co22, eo22⟩ := Kd.R_slice HO_3.out
     subst eo22
     go_wp2_with (first | ((with_reducible refine gcl (f := 45) rfl ?_); refine gL (some 43) rfl rfl Tryz.func45 (by kernel_rfl) rfl #[.slice Ao22 x3_1.length co22, .int .i64 1] rfl sqA ?_; (with_reducible refine (w2_shared.calls kj12 _ _ x3_1 1 t648 _ ?side1 ?side2 A21.out).mono ?_); (case side1 => repeat (first | exact (Kd.R_reads' HO_3.out).2.2 | (with_reducible refine Kd.C_alloc ?_ _) | (with_reducible refine Kd.C_drewN ?_ _) | (with_reducible refine Kd.C_drew ?_))); (case side2 => exact (Kd.R_reads' HO_3.out).2.1); rintro e w23 ⟨rfl, hb⟩; refine ⟨_, rfl, ?_⟩; have n0_ := Sd.mk (Kd.R_below (sqR HO_3.out) hb); have n1_ := Sd.mk (bst sqB hb); clear HO_3; clear HB; have HO_3 := n0_; have HB := n1_; clear n0_ n1_; (try clear hb); (try clear hb2); (try clear hk); (try clear hi)))
     go_ret
     exact ⟨sqE', sqB⟩
def w2_Mean.l0 : Nat → List Nat → List Nat → Int → Int → Option (Nat × Bool)
 | 0, _, _, _, _ => none
 | k + 1, x0, x9, x10, x11 => if x11 < x10 then (if 0 ≤ x11 then (if x11 < (x9.length : Int) then (if (FloatKind.f64.format.order (rdOf 0 x9 x11) (rdOf 0 x9 x11) != some .eq) = true then (some ((0 : Nat), false)) else ((math_IsInf.f (rdOf 0 x9 x11) 0).bind fun t650 => (if t650 = true then (some ((0 : Nat), false)) else (w2_Mean.l0 k x0 x9 x10 (wrap64 (x11 + 1)))))) else (none)) else (none)) else ((w2_shared.f k x0 (x0.length : Int)).bind fun t651 => (some (t651, true)))
def w2_Mean.f (k : Nat) (l0 : List Nat) : Option (Nat × Bool) := if (l0.length : Int) = 0 then (some ((0 : Nat), false)) else (w2_Mean.l0 k l0 l0 (l0.length : Int) 0)
theorem w2_Mean.mono_l : ∀ k, (∀ y0 y1 y2 y3, LeO (w2_Mean.l0 k y0 y1 y2 y3) (w2_Mean.l0 (k + 1) y0 y1 y2 y3))
 | 0 => fun _ _ _ _ r h => by simp [w2_Mean.l0] at h
 | k + 1 => by
  have ih0 := w2_Mean.mono_l k
  intro y0 y1 y2 y3
  unfold w2_Mean.l0
  repeat' first | (with_reducible first | apply ih0 | apply w2_shared.mono | apply LeO.refl | apply LeO.none | refine LeO.ite ?_ ?_ | refine LeO.bind ?_ (fun _ => ?_)) | apply LeO.none | refine LeO.ite ?_ ?_ | refine LeO.bind ?_ (fun _ => ?_)
theorem w2_Mean.mono : ∀ a0 k, LeO (w2_Mean.f k a0) (w2_Mean.f (k + 1) a0) := by
 intro a0 k
 have ih0 := w2_Mean.mono_l k
 unfold w2_Mean.f
 repeat' first | (with_reducible first | apply ih0 | apply w2_shared.mono | apply LeO.refl | apply LeO.none | refine LeO.ite ?_ ?_ | refine LeO.bind ?_ (fun _ => ?_)) | apply LeO.none | refine LeO.ite ?_ ?_ | refine LeO.bind ?_ (fun _ => ?_)
theorem w2_Mean.calls (k : Nat) (A0 : Option Addr) (c0 : Nat) (l0 : List Nat) (r1 : Nat) (r2 : Bool) (w : World) (hr0 : Kd.C Kd.flt w A0 l0.length l0) (hc0 : l0.length ≤ c0) (h : w2_Mean.f k l0 = some (r1, r2)) :
  Calls Tryz.prog 22 #[.slice A0 l0.length c0] w fun e w' => e = .returned (.tuple #[.float .f64 r1, .bool r2]) ∧ Below w.heap.size w w' := by
 have HR0 := Sd.mk hr0
 have HC0 := Sd.mk hc0
 clear hr0 hc0
 have HB := Sd.mk (Below.refl w.heap.size w)
 have H : (if (l0.length : Int) = 0 then (some ((0 : Nat), false)) else (w2_Mean.l0 k l0 l0 (l0.length : Int) 0)) = some (r1, r2) := h
 clear h
 by_cases c2 : (l0.length : Int) = 0
 ·rw [if_pos c2] at H
  have c2b0 := beq_iff_eq.mpr c2
  have c2b1 := bne_eq_false_iff_eq.mpr c2
  clear c2
  simp only [Option.some.injEq, Prod.mk.injEq] at H
  obtain ⟨rfl, rfl⟩ := H
  go_enter Tryz.func22, Tryz.ntmps22
  go_wp2
  go_ret2
  exact ⟨sqE', sqB⟩
 rw [if_neg c2] at H
 have c2b0 := beq_eq_false_iff_ne.mpr c2
 have c2b1 := bne_iff_ne.mpr c2
 have c2b2 : ¬ (l0 = []) := fun h_ => c2 (by rw [h_]; rfl)
 have H' := Sd.mk H
 clear H
 go_enter Tryz.func22, Tryz.ntmps22
 go_wp2
 go_loopg [11] k (fun kq v11 w' => ∃ (x11_1 : Int), v11 = .int .i64 x11_1 ∧ Sd (w2_Mean.l0 kq l0 l0 (l0.length : Int) x11_1 = some (r1, r2)) ∧ Sd (kq ≤ k) ∧ Sd (Below w.heap.size w w'))
 case atStart => exact ⟨(0), sqE, H', ⟨Nat.le_refl _⟩, ⟨sqB⟩⟩
 case round =>
  clear H'
  try clear c2
  try clear c2b0
  try clear c2b1
  try clear c2b2
  try clear p2
  obtain ⟨x11_1, rfl, HA, HK1, HB⟩ := hrel
  cases gk with
  | zero => exact absurd HA.out (by simp [w2_Mean.l0])
  | succ k1 =>
   have H := HA.out
   clear HA
   simp only [w2_Mean.l0] at H
   by_cases c3 : x11_1 < (l0.length : Int)
   case neg =>
    rw [if_neg c3] at H
    have c3b0 := decide_eq_false c3
    clear c3
    obtain ⟨t651, A9, H⟩ := sqO H
    try dsimp only at H
    simp only [Option.some.injEq, Prod.mk.injEq] at H
    obtain ⟨rfl, rfl⟩ := H
    go_wp2_with (first | ((with_reducible refine gcl (f := 45) rfl ?_); refine gL (some 26) rfl rfl Tryz.func45 (by kernel_rfl) rfl #[.slice A0 l0.length c0, .int .i64 (l0.length : Int)] rfl sqA ?_; (with_reducible refine (w2_shared.calls k1 _ _ l0 (l0.length : Int) t651 _ ?side1 ?side2 A9.out).mono ?_); (case side1 => repeat (first | exact (Kd.C_below HR0.out HB.out) | (with_reducible refine Kd.C_alloc ?_ _) | (with_reducible refine Kd.C_drewN ?_ _) | (with_reducible refine Kd.C_drew ?_))); (case side2 => exact HC0.out); rintro e w10 ⟨rfl, hb⟩; refine ⟨_, rfl, ?_⟩; have n0_ := Sd.mk (bst sqB hb); clear HB; have HB := n0_; clear n0_; (try clear hb); (try clear hb2); (try clear hk); (try clear hi)))
    go_ret2
    exact ⟨sqE', sqB⟩
   rw [if_pos c3] at H
   have c3b0 := decide_eq_true c3
   clear c3
   by_cases c4 : 0 ≤ x11_1
   case neg => rw [if_neg c4] at H; exact absurd H (by simp)
   rw [if_pos c4] at H
   have c4b0 := decide_eq_true c4
   clear c4
   by_cases c5 : x11_1 < (l0.length : Int)
   case neg => rw [if_neg c5] at H; exact absurd H (by simp)
   rw [if_pos c5] at H
   have c5b0 := decide_eq_true c5
   clear c5
   by_cases c6 : (FloatKind.f64.format.order (rdOf 0 l0 x11_1) (rdOf 0 l0 x11_1) != some .eq) = true
   ·rw [if_pos c6] at H
    have c6b0 : (FloatKind.f64.format.order (rdOf 0 l0 x11_1) (rdOf 0 l0 x11_1) != some .eq) = true := c6
    (try (have c6b1 : decide (FloatKind.f64.format.order (rdOf 0 l0 x11_1) (rdOf 0 l0 x11_1) = some .eq) = false := by simpa using c6))
    (try (have c6b2 : (FloatKind.f64.format.order (rdOf 0 l0 x11_1) (rdOf 0 l0 x11_1) == some .eq) = false := by simpa using c6))
    (try (have c6b3 : ¬ (FloatKind.f64.format.order (rdOf 0 l0 x11_1) (rdOf 0 l0 x11_1) = some .eq) := by simpa using c6))
    clear c6
    simp only [Option.some.injEq, Prod.mk.injEq] at H
    obtain ⟨rfl, rfl⟩ := H
    have p649 : 0 ≤ (x11_1 : Int) := sqD
    have q649 : x11_1 < (l0.length : Int) := sqD
    obtain ⟨ad649, e649, hx649_0⟩ := Kd.at_flt HR0.out x11_1 p649 q649
    cases e649
    replace hx649_0 := (HB.out.cell (World.block_lt_of_cell? w _ hx649_0)).trans hx649_0
    replace p649 := eq_true p649
    replace q649 := eq_true q649
    go_wp2
    go_ret2
    exact ⟨sqE', sqB⟩
   rw [if_neg c6] at H
   have c6b0 : (FloatKind.f64.format.order (rdOf 0 l0 x11_1) (rdOf 0 l0 x11_1) != some .eq) = false := by simpa using c6
   (try (have c6b1 : decide (FloatKind.f64.format.order (rdOf 0 l0 x11_1) (rdOf 0 l0 x11_1) = some .eq) = true := by simpa using c6))
   (try (have c6b2 : (FloatKind.f64.format.order (rdOf 0 l0 x11_1) (rdOf 0 l0 x11_1) == some .eq) = true := by simpa using c6))
   clear c6
   obtain ⟨t650, A7, H⟩ := sqO H
   try dsimp only at H
   by_cases c8 : t650 = true
   ·subst c8
    have H1 : (some ((0 : Nat), false)) = some (r1, r2) := by rw [if_pos rfl] at H; exact H
    clear H
    have H := H1
    clear H1
    simp only [Option.some.injEq, Prod.mk.injEq] at H
    obtain ⟨rfl, rfl⟩ := H
    have p649 : 0 ≤ (x11_1 : Int) := sqD
    have q649 : x11_1 < (l0.length : Int) := sqD
    obtain ⟨ad649, e649, hx649_0⟩ := Kd.at_flt HR0.out x11_1 p649 q649
    cases e649
    replace hx649_0 := (HB.out.cell (World.block_lt_of_cell? w _ hx649_0)).trans hx649_0
    replace p649 := eq_true p649
    replace q649 := eq_true q649
    go_wp2_with (first | (go_at_call 30; (with_reducible refine (math_IsInf.calls (rdOf 0 l0 x11_1) 0 true _ A7.out).mono ?_); rintro e w' ⟨rfl, ⟨nd, rfl⟩⟩))
    go_ret2
    exact ⟨sqE', sqB⟩
   replace c8 := Bool.eq_false_iff.mpr c8
   subst c8
   have H1 : (w2_Mean.l0 k1 l0 l0 (l0.length : Int) (wrap64 (x11_1 + 1))) = some (r1, r2) := by rw [if_neg (show ¬ (false = true) by decide)] at H; exact H
   clear H
   have H := H1
   clear H1
   have H' := Sd.mk H
   clear H
   have p649 : 0 ≤ (x11_1 : Int) := sqD
   have q649 : x11_1 < (l0.length : Int) := sqD
   obtain ⟨ad649, e649, hx649_0⟩ := Kd.at_flt HR0.out x11_1 p649 q649
   cases e649
   replace hx649_0 := (HB.out.cell (World.block_lt_of_cell? w _ hx649_0)).trans hx649_0
   replace p649 := eq_true p649
   replace q649 := eq_true q649
   go_wp2_with (first | (go_at_call 30; (with_reducible refine (math_IsInf.calls (rdOf 0 l0 x11_1) 0 false _ A7.out).mono ?_); rintro e w' ⟨rfl, ⟨nd, rfl⟩⟩))
   go_roundg k1
   case measure => have := HK1.out; omega
   case rel => exact ⟨(wrap64 (x11_1 + 1)), sqE, H', ⟨by have := HK1.out; omega⟩, ⟨sqB⟩⟩
def api_Bits.f (a0 : Nat) : Option (Int) := some ((a0 : Nat) : Int)
theorem api_Bits.calls (a0 : Nat) (r : Int) (w : World) (h : api_Bits.f a0 = some r) :
  Calls Tryz.prog 10 #[.float .f64 a0] w fun e w' => e = .returned (.int .u64 r) ∧ Drawn0 w w' := by
 have H : (some ((a0 : Nat) : Int)) = some r := h
 clear h
 have hf2 := fun w_ : World => Rm.x_Float64bits a0 w_
 obtain rfl := Option.some.inj H
 go_enter Tryz.func10, Tryz.ntmps10
 go_wp2
 go_ret
 exact ⟨sqE, sqW⟩
def w2_rank.f (a0 : Nat) : Option (Int) := if (FloatKind.f64.format.order a0 a0 != some .eq) = true then (some 9223372036854775807) else ((api_Bits.f a0).bind fun t652 => (if (wrap64 (t652)) < 0 then (some (wrap64 ((wrap64 ((-9223372036854775808) - (wrap64 (t652)))) - 1))) else (some (wrap64 (t652)))))
theorem w2_rank.calls (a0 : Nat) (r : Int) (w : World) (h : w2_rank.f a0 = some r) :
  Calls Tryz.prog 66 #[.float .f64 a0] w fun e w' => e = .returned (.int .i64 r) ∧ Drawn0 w w' := by
 have H : (if (FloatKind.f64.format.order a0 a0 != some .eq) = true then (some 9223372036854775807) else ((api_Bits.f a0).bind fun t652 => (if (wrap64 (t652)) < 0 then (some (wrap64 ((wrap64 ((-9223372036854775808) - (wrap64 (t652)))) - 1))) else (some (wrap64 (t652)))))) = some r := h
 clear h
 by_cases c2 : (FloatKind.f64.format.order a0 a0 != some .eq) = true
 ·rw [if_pos c2] at H
  have c2b0 : (FloatKind.f64.format.order a0 a0 != some .eq) = true := c2
  (try (have c2b1 : decide (FloatKind.f64.format.order a0 a0 = some .eq) = false := by simpa using c2))
  (try (have c2b2 : (FloatKind.f64.format.order a0 a0 == some .eq) = false := by simpa using c2))
  (try (have c2b3 : ¬ (FloatKind.f64.format.order a0 a0 = some .eq) := by simpa using c2))
  clear c2
  obtain rfl := Option.some.inj H
  go_enter Tryz.func66, Tryz.ntmps66
  go_wp2
  go_ret
  exact ⟨sqE, sqW⟩
 rw [if_neg c2] at H
 have c2b0 : (FloatKind.f64.format.order a0 a0 != some .eq) = false := by simpa using c2
 (try (have c2b1 : decide (FloatKind.f64.format.order a0 a0 = some .eq) = true := by simpa using c2))
 (try (have c2b2 : (FloatKind.f64.format.order a0 a0 == some .eq) = true := by simpa using c2))
 clear c2
 obtain ⟨t652, A3, H⟩ := sqO H
 try dsimp only at H
 by_cases c4 : (wrap64 (t652)) < 0
 ·rw [if_pos c4] at H
  have c4b0 := decide_eq_true c4
  clear c4
  obtain rfl := Option.some.inj H
  go_enter Tryz.func66, Tryz.ntmps66
  go_wp2_with (first | ((with_reducible refine gcl (f := 10) rfl ?_); refine gL (some 8) rfl rfl Tryz.func10 (by kernel_rfl) rfl #[.float .f64 a0] rfl sqA ?_; (with_reducible refine (api_Bits.calls a0 t652 _ A3.out).mono ?_); rintro e w' ⟨rfl, ⟨nd, rfl⟩⟩; refine ⟨_, rfl, ?_⟩))
  go_ret
  exact ⟨sqE, sqW⟩
 rw [if_neg c4] at H
 have c4b0 := decide_eq_false c4
 clear c4
 obtain rfl := Option.some.inj H
 go_enter Tryz.func66, Tryz.ntmps66
 go_wp2_with (first | ((with_reducible refine gcl (f := 10) rfl ?_); refine gL (some 8) rfl rfl Tryz.func10 (by kernel_rfl) rfl #[.float .f64 a0] rfl sqA ?_; (with_reducible refine (api_Bits.calls a0 t652 _ A3.out).mono ?_); rintro e w' ⟨rfl, ⟨nd, rfl⟩⟩; refine ⟨_, rfl, ?_⟩))
 go_ret
 exact ⟨sqE, sqW⟩
def w2_Order.f (a0 : Nat) (a1 : Nat) : Option (Int) := (w2_rank.f a0).bind fun t653 => ((w2_rank.f a1).bind fun t654 => (if t653 < t654 then (some (-1)) else (if t653 > t654 then (some 1) else (some 0))))
theorem w2_Order.calls (a0 : Nat) (a1 : Nat) (r : Int) (w : World) (h : w2_Order.f a0 a1 = some r) :
  Calls Tryz.prog 34 #[.float .f64 a0, .float .f64 a1] w fun e w' => e = .returned (.int .i64 r) ∧ Drawn0 w w' := by
 have H : ((w2_rank.f a0).bind fun t653 => ((w2_rank.f a1).bind fun t654 => (if t653 < t654 then (some (-1)) else (if t653 > t654 then (some 1) else (some 0))))) = some r := h
 clear h
 obtain ⟨t653, A3, H⟩ := sqO H
 try dsimp only at H
 obtain ⟨t654, A4, H⟩ := sqO H
 try dsimp only at H
 by_cases c5 : t653 < t654
 ·rw [if_pos c5] at H
  have c5b0 := decide_eq_true c5
  clear c5
  obtain rfl := Option.some.inj H
  go_enter Tryz.func34, Tryz.ntmps34
  go_wp2_with (first | ((with_reducible refine gcl (f := 66) rfl ?_); refine gL (some 8) rfl rfl Tryz.func66 (by kernel_rfl) rfl #[.float .f64 a0] rfl sqA ?_; (with_reducible refine (w2_rank.calls a0 t653 _ A3.out).mono ?_); rintro e w' ⟨rfl, ⟨nd, rfl⟩⟩; refine ⟨_, rfl, ?_⟩) | ((with_reducible refine gcl (f := 66) rfl ?_); refine gL (some 10) rfl rfl Tryz.func66 (by kernel_rfl) rfl #[.float .f64 a1] rfl sqA ?_; (with_reducible refine (w2_rank.calls a1 t654 _ A4.out).mono ?_); rintro e w' ⟨rfl, ⟨nd, rfl⟩⟩; refine ⟨_, rfl, ?_⟩))
  go_ret
  exact ⟨sqE, sqW⟩
 rw [if_neg c5] at H
 have c5b0 := decide_eq_false c5
 clear c5
 by_cases c6 : t653 > t654
 ·rw [if_pos c6] at H
  have c6b0 := decide_eq_true c6
  clear c6
  obtain rfl := Option.some.inj H
  go_enter Tryz.func34, Tryz.ntmps34
  go_wp2_with (first | ((with_reducible refine gcl (f := 66) rfl ?_); refine gL (some 8) rfl rfl Tryz.func66 (by kernel_rfl) rfl #[.float .f64 a0] rfl sqA ?_; (with_reducible refine (w2_rank.calls a0 t653 _ A3.out).mono ?_); rintro e w' ⟨rfl, ⟨nd, rfl⟩⟩; refine ⟨_, rfl, ?_⟩) | ((with_reducible refine gcl (f := 66) rfl ?_); refine gL (some 10) rfl rfl Tryz.func66 (by kernel_rfl) rfl #[.float .f64 a1] rfl sqA ?_; (with_reducible refine (w2_rank.calls a1 t654 _ A4.out).mono ?_); rintro e w' ⟨rfl, ⟨nd, rfl⟩⟩; refine ⟨_, rfl, ?_⟩))
  go_ret
  exact ⟨sqE, sqW⟩
 rw [if_neg c6] at H
 have c6b0 := decide_eq_false c6
 clear c6
 obtain rfl := Option.some.inj H
 go_enter Tryz.func34, Tryz.ntmps34
 go_wp2_with (first | ((with_reducible refine gcl (f := 66) rfl ?_); refine gL (some 8) rfl rfl Tryz.func66 (by kernel_rfl) rfl #[.float .f64 a0] rfl sqA ?_; (with_reducible refine (w2_rank.calls a0 t653 _ A3.out).mono ?_); rintro e w' ⟨rfl, ⟨nd, rfl⟩⟩; refine ⟨_, rfl, ?_⟩) | ((with_reducible refine gcl (f := 66) rfl ?_); refine gL (some 10) rfl rfl Tryz.func66 (by kernel_rfl) rfl #[.float .f64 a1] rfl sqA ?_; (with_reducible refine (w2_rank.calls a1 t654 _ A4.out).mono ?_); rintro e w' ⟨rfl, ⟨nd, rfl⟩⟩; refine ⟨_, rfl, ?_⟩))
 go_ret
 exact ⟨sqE, sqW⟩
def w2_Narrow.f (a0 : Nat) : Option (Nat) := if (FloatKind.f64.format.order a0 a0 != some .eq) = true then ((api_Float.f 9221120237041090560).bind fun t655 => (some t655)) else ((floatToFloatBits .f64 a0 .f32).bind fun t656 => ((floatToFloatBits .f32 t656 .f64).bind fun t657 => (some t657)))
theorem w2_Narrow.calls (a0 : Nat) (r : Nat) (w : World) (h : w2_Narrow.f a0 = some r) :
  Calls Tryz.prog 35 #[.float .f64 a0] w fun e w' => e = .returned (.float .f64 r) ∧ Drawn0 w w' := by
 have H : (if (FloatKind.f64.format.order a0 a0 != some .eq) = true then ((api_Float.f 9221120237041090560).bind fun t655 => (some t655)) else ((floatToFloatBits .f64 a0 .f32).bind fun t656 => ((floatToFloatBits .f32 t656 .f64).bind fun t657 => (some t657)))) = some r := h
 clear h
 by_cases c2 : (FloatKind.f64.format.order a0 a0 != some .eq) = true
 ·rw [if_pos c2] at H
  have c2b0 : (FloatKind.f64.format.order a0 a0 != some .eq) = true := c2
  (try (have c2b1 : decide (FloatKind.f64.format.order a0 a0 = some .eq) = false := by simpa using c2))
  (try (have c2b2 : (FloatKind.f64.format.order a0 a0 == some .eq) = false := by simpa using c2))
  (try (have c2b3 : ¬ (FloatKind.f64.format.order a0 a0 = some .eq) := by simpa using c2))
  clear c2
  obtain ⟨t655, A3, H⟩ := sqO H
  try dsimp only at H
  obtain rfl := Option.some.inj H
  go_enter Tryz.func35, Tryz.ntmps35
  go_wp2_with (first | ((with_reducible refine gcl (f := 12) rfl ?_); refine gL (some 6) rfl rfl Tryz.func12 (by kernel_rfl) rfl #[.int .u64 9221120237041090560] rfl sqA ?_; (with_reducible refine (api_Float.calls 9221120237041090560 t655 _ A3.out).mono ?_); rintro e w' ⟨rfl, ⟨nd, rfl⟩⟩; refine ⟨_, rfl, ?_⟩))
  go_ret
  exact ⟨sqE, sqW⟩
 rw [if_neg c2] at H
 have c2b0 : (FloatKind.f64.format.order a0 a0 != some .eq) = false := by simpa using c2
 (try (have c2b1 : decide (FloatKind.f64.format.order a0 a0 = some .eq) = true := by simpa using c2))
 (try (have c2b2 : (FloatKind.f64.format.order a0 a0 == some .eq) = true := by simpa using c2))
 clear c2
 replace H := Option.bind_eq_some_iff.mp H
 obtain ⟨t656, A40, H⟩ := H
 try dsimp only at H
 have hf5 : ∀ w_ : World, Sem.run Tryz.prog (convert 22 92 (.float .f64 a0)) w_ = .ok (.float .f32 t656) w_ := fun w_ => run_convert_float_float w_ 22 92 .f64 .f32 a0 t656 (by rw [Tryz.underlying22]; rfl) Tryz.underlying92 A40
 clear A40
 replace H := Option.bind_eq_some_iff.mp H
 obtain ⟨t657, A60, H⟩ := H
 try dsimp only at H
 have hf7 : ∀ w_ : World, Sem.run Tryz.prog (convert 92 22 (.float .f32 t656)) w_ = .ok (.float .f64 t657) w_ := fun w_ => run_convert_float_float w_ 92 22 .f32 .f64 t656 t657 (by rw [Tryz.underlying92]; rfl) Tryz.underlying22 A60
 clear A60
 obtain rfl := Option.some.inj H
 go_enter Tryz.func35, Tryz.ntmps35
 go_wp2
 go_ret
 exact ⟨sqE, sqW⟩
end Go.Proofs.YtfmjdoofopamkaaGreatDoor.W
