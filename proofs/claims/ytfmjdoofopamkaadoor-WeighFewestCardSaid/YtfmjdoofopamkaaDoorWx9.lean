-- written by wip/pp.py of this session (the kit's print with patches); checked by Lean alone
import Derived.Test.YtfmjdoofopamkaaDoorWx0
import Derived.Test.YtfmjdoofopamkaaDoorWx1
import Derived.Test.YtfmjdoofopamkaaDoorWx8
namespace Go.Proofs.YtfmjdoofopamkaaDoor.W
open Go.RowKit Go.Proofs.YtfmjdoofopamkaaDoorW.PrintWords Go.Proofs.YtfmjdoofopamkaaDoorW.PrintLast Go.Proofs.YtfmjdoofopamkaaDoorW.PrintMore
attribute [local go_sem] max2_int min2_int max_two min_two max_three min_three max_four min_four   -- for this text's walks alone
set_option linter.unusedVariables false
set_option linter.unusedSimpArgs false

/-! ### weigh_Exact: function 23 -/
mutual
def weigh_Exact.l0 : Nat → List Nat → Bool → Bool → List Nat → Int → Int → Option (Nat)
 | 0, _, _, _, _, _, _ => none
 | k + 1, x3, x4, x5, x8, x9, x10 => if x10 < x9 then (if 0 ≤ x10 then (if x10 < (x8.length : Int) then (if (FloatKind.f64.format.order (rdOf 0 x8 x10) (rdOf 0 x8 x10) != some .eq) = true then ((api_Float.f 9221120237041090560).bind fun t424 => (some t424)) else ((math_IsInf.f (rdOf 0 x8 x10) 1).bind fun t425 => (if t425 = true then (weigh_Exact.l0 k x3 true x5 x8 x9 (wrap64 (x10 + 1))) else ((math_IsInf.f (rdOf 0 x8 x10) (-1)).bind fun t426 => (if t426 = true then (weigh_Exact.l0 k x3 x4 true x8 x9 (wrap64 (x10 + 1))) else (if x3.length < 17592186044416 then (weigh_Exact.l0 k (x3 ++ [rdOf 0 x8 x10]) x4 x5 x8 x9 (wrap64 (x10 + 1))) else (none))))))) else (none)) else (none)) else (if x4 = true then (weigh_Exact.j1 k x3 x4 x5 x5) else (weigh_Exact.j1 k x3 x4 x5 false))
def weigh_Exact.j1 : Nat → List Nat → Bool → Bool → Bool → Option (Nat)
 | 0, _, _, _, _ => none
 | k + 1, x3, x4, x5, x30 => if x30 = true then ((api_Float.f 9221120237041090560).bind fun t430 => (some t430)) else (if x4 = true then ((math_Inf.f 1).bind fun t431 => (some t431)) else (if x5 = true then ((math_Inf.f (-1)).bind fun t432 => (some t432)) else ((weigh_shared.f k x3 1).bind fun t433 => (some t433))))
end
def weigh_Exact.f (k : Nat) (l0 : List Nat) : Option (Nat) := weigh_Exact.l0 k ([] : List Nat) false false l0 (l0.length : Int) 0
theorem weigh_Exact.mono_l : ∀ k, (∀ y0 y1 y2 y3 y4 y5, LeO (weigh_Exact.l0 k y0 y1 y2 y3 y4 y5) (weigh_Exact.l0 (k + 1) y0 y1 y2 y3 y4 y5)) ∧ (∀ y0 y1 y2 y3, LeO (weigh_Exact.j1 k y0 y1 y2 y3) (weigh_Exact.j1 (k + 1) y0 y1 y2 y3))
 | 0 => ⟨fun _ _ _ _ _ _ r h => by simp [weigh_Exact.l0] at h, fun _ _ _ _ r h => by simp [weigh_Exact.j1] at h⟩
 | k + 1 => by
  obtain ⟨ih0, ih1⟩ := weigh_Exact.mono_l k
  refine ⟨?_, ?_⟩
  ·intro y0 y1 y2 y3 y4 y5
   unfold weigh_Exact.l0
   repeat' first | (with_reducible first | apply ih0 | apply ih1 | apply weigh_shared.mono | apply LeO.refl | apply LeO.none | refine LeO.ite ?_ ?_ | refine LeO.bind ?_ (fun _ => ?_)) | apply ih0 | apply ih1 | apply weigh_shared.mono | apply LeO.none | refine LeO.ite ?_ ?_ | refine LeO.bind ?_ (fun _ => ?_)
  intro y0 y1 y2 y3
  unfold weigh_Exact.j1
  repeat' first | (with_reducible first | apply ih0 | apply ih1 | apply weigh_shared.mono | apply LeO.refl | apply LeO.none | refine LeO.ite ?_ ?_ | refine LeO.bind ?_ (fun _ => ?_)) | apply ih0 | apply ih1 | apply weigh_shared.mono | apply LeO.none | refine LeO.ite ?_ ?_ | refine LeO.bind ?_ (fun _ => ?_)
theorem weigh_Exact.mono : ∀ a0 k, LeO (weigh_Exact.f k a0) (weigh_Exact.f (k + 1) a0) := by
 intro a0 k
 obtain ⟨ih0, ih1⟩ := weigh_Exact.mono_l k
 unfold weigh_Exact.f
 repeat' first | (with_reducible first | apply ih0 | apply ih1 | apply weigh_shared.mono | apply LeO.refl | apply LeO.none | refine LeO.ite ?_ ?_ | refine LeO.bind ?_ (fun _ => ?_)) | apply ih0 | apply ih1 | apply weigh_shared.mono | apply LeO.none | refine LeO.ite ?_ ?_ | refine LeO.bind ?_ (fun _ => ?_)
set_option maxHeartbeats 8000000 in
set_option maxRecDepth 100000 in
theorem weigh_Exact.calls (k : Nat) (A0 : Option Addr) (c0 : Nat) (l0 : List Nat) (r : Nat) (w : World) (hr0 : Kd.C Kd.flt w A0 l0.length l0) (hc0 : l0.length ≤ c0) (h : weigh_Exact.f k l0 = some r) :
  Calls Tryd.prog 23 #[.slice A0 l0.length c0] w fun e w' => e = .returned (.float .f64 r) ∧ Below w.heap.size w w' := by
 have HR0 := Aside0.mk hr0
 have HC0 := Aside0.mk hc0
 clear hr0 hc0
 have HB := Aside0.mk (Below.refl w.heap.size w)
 have H : (weigh_Exact.l0 k ([] : List Nat) false false l0 (l0.length : Int) 0) = some r := h
 clear h
 have H' := Aside0.mk H
 clear H
 go_enter Tryd.func23, Tryd.ntmps23
 go_wp2
 go_loopg [3, 4, 5, 10] k (fun kq v3 v4 v5 v10 w' => ∃ (x3_1 : List Nat) (x4_1 : Bool) (x5_1 : Bool) (x10_1 : Int), v4 = .bool x4_1 ∧ v5 = .bool x5_1 ∧ v10 = .int .i64 x10_1 ∧ Aside0 (weigh_Exact.l0 kq x3_1 x4_1 x5_1 l0 (l0.length : Int) x10_1 = some r) ∧ Aside0 (kq ≤ k) ∧ Aside0 (Kd.R Kd.flt 23 w' w.heap.size (fun _ => True) v3 x3_1) ∧ Aside0 (Below w.heap.size w w'))
 case atStart => exact ⟨(([] : List Nat)), (false), (false), (0), sqE, sqE, sqE, H', ⟨Nat.le_refl _⟩, ⟨by first | exact Kd.R_nil _ _ _ _ _ | exact Kd.N_nil _ _ _ _ _ | exact Kd.V_nil _ _ _ _ _ | exact Kd.Q_nil _ _ _ _ _ | exact Kd.S_nil _ _ _ _ _⟩, ⟨sqB⟩⟩
 case round =>
  clear H'
  obtain ⟨x3_1, x4_1, x5_1, x10_1, rfl, rfl, rfl, HA, HK1, HO_3, HB⟩ := hrel
  cases gk with
  | zero => exact absurd HA.out (by simp [weigh_Exact.l0])
  | succ k1 =>
   have H := HA.out
   clear HA
   simp only [weigh_Exact.l0] at H
   by_cases c2 : x10_1 < (l0.length : Int)
   ·rw [if_pos c2] at H
    have c2b0 := decide_eq_true c2
    clear c2
    by_cases c3 : 0 ≤ x10_1
    case neg => rw [if_neg c3] at H; exact absurd H (by simp)
    rw [if_pos c3] at H
    have c3b0 := decide_eq_true c3
    clear c3
    by_cases c4 : x10_1 < (l0.length : Int)
    case neg => rw [if_neg c4] at H; exact absurd H (by simp)
    rw [if_pos c4] at H
    have c4b0 := decide_eq_true c4
    clear c4
    by_cases c5 : (FloatKind.f64.format.order (rdOf 0 l0 x10_1) (rdOf 0 l0 x10_1) != some .eq) = true
    ·rw [if_pos c5] at H
     have c5b0 : (FloatKind.f64.format.order (rdOf 0 l0 x10_1) (rdOf 0 l0 x10_1) != some .eq) = true := c5
     (try (have c5b1 : decide (FloatKind.f64.format.order (rdOf 0 l0 x10_1) (rdOf 0 l0 x10_1) = some .eq) = false := by simpa using c5))
     (try (have c5b2 : (FloatKind.f64.format.order (rdOf 0 l0 x10_1) (rdOf 0 l0 x10_1) == some .eq) = false := by simpa using c5))
     (try (have c5b3 : ¬ (FloatKind.f64.format.order (rdOf 0 l0 x10_1) (rdOf 0 l0 x10_1) = some .eq) := by simpa using c5))
     clear c5
     replace H := Option.bind_eq_some_iff.mp H
     obtain ⟨t424, A60, H⟩ := H
     try dsimp only at H
     have A6 := Aside0.mk A60
     clear A60
     obtain rfl := Option.some.inj H
     have p423 : 0 ≤ (x10_1 : Int) := sqD
     have q423 : x10_1 < (l0.length : Int) := sqD
     obtain ⟨ad423, e423, hx423_0⟩ := Kd.at_flt HR0.out x10_1 p423 q423
     cases e423
     replace hx423_0 := (HB.out.cell (World.block_lt_of_cell? w _ hx423_0)).trans hx423_0
     replace p423 := eq_true p423
     replace q423 := eq_true q423
     go_wp2_with (first | ((with_reducible refine gate_callee (f := 11) rfl ?_); refine goesL_ (some 22) rfl rfl Tryd.func11 (by kernel_rfl) rfl #[.int .u64 9221120237041090560] rfl sqA ?_; (with_reducible refine (api_Float.calls 9221120237041090560 t424 _ A6.out).mono ?_); rintro e w' ⟨rfl, ⟨nd, rfl⟩⟩; refine ⟨_, rfl, ?_⟩))
     go_ret
     exact ⟨sqE', sqB⟩
    rw [if_neg c5] at H
    have c5b0 : (FloatKind.f64.format.order (rdOf 0 l0 x10_1) (rdOf 0 l0 x10_1) != some .eq) = false := by simpa using c5
    (try (have c5b1 : decide (FloatKind.f64.format.order (rdOf 0 l0 x10_1) (rdOf 0 l0 x10_1) = some .eq) = true := by simpa using c5))
    (try (have c5b2 : (FloatKind.f64.format.order (rdOf 0 l0 x10_1) (rdOf 0 l0 x10_1) == some .eq) = true := by simpa using c5))
    clear c5
    replace H := Option.bind_eq_some_iff.mp H
    obtain ⟨t425, A70, H⟩ := H
    try dsimp only at H
    have A7 := Aside0.mk A70
    clear A70
    by_cases c8 : t425 = true
    ·subst c8
     have H1 : (weigh_Exact.l0 k1 x3_1 true x5_1 l0 (l0.length : Int) (wrap64 (x10_1 + 1))) = some r := by rw [if_pos rfl] at H; exact H
     clear H
     have H := H1
     clear H1
     have H' := Aside0.mk H
     clear H
     have p423 : 0 ≤ (x10_1 : Int) := sqD
     have q423 : x10_1 < (l0.length : Int) := sqD
     obtain ⟨ad423, e423, hx423_0⟩ := Kd.at_flt HR0.out x10_1 p423 q423
     cases e423
     replace hx423_0 := (HB.out.cell (World.block_lt_of_cell? w _ hx423_0)).trans hx423_0
     replace p423 := eq_true p423
     replace q423 := eq_true q423
     go_wp2_with (first | ((with_reducible refine gate_callee (f := 37) rfl ?_); refine goesL_ (some 25) rfl rfl Tryd.func37 (by kernel_rfl) rfl #[.float .f64 (rdOf 0 l0 x10_1), .int .i64 1] rfl sqA ?_; (with_reducible refine (math_IsInf.calls (rdOf 0 l0 x10_1) 1 true _ A7.out).mono ?_); rintro e w' ⟨rfl, ⟨nd, rfl⟩⟩; refine ⟨_, rfl, ?_⟩))
     go_roundg k1
     case measure => have := HK1.out; omega
     case rel => exact ⟨(x3_1), (true), (x5_1), (wrap64 (x10_1 + 1)), sqE, sqE, sqE, H', ⟨by have := HK1.out; omega⟩, ⟨sqR HO_3.out⟩, ⟨sqB⟩⟩
    replace c8 := Bool.eq_false_iff.mpr c8
    subst c8
    have H1 : ((math_IsInf.f (rdOf 0 l0 x10_1) (-1)).bind fun t426 => (if t426 = true then (weigh_Exact.l0 k1 x3_1 x4_1 true l0 (l0.length : Int) (wrap64 (x10_1 + 1))) else (if x3_1.length < 17592186044416 then (weigh_Exact.l0 k1 (x3_1 ++ [rdOf 0 l0 x10_1]) x4_1 x5_1 l0 (l0.length : Int) (wrap64 (x10_1 + 1))) else (none)))) = some r := by rw [if_neg (show ¬ (false = true) by decide)] at H; exact H
    clear H
    have H := H1
    clear H1
    replace H := Option.bind_eq_some_iff.mp H
    obtain ⟨t426, A90, H⟩ := H
    try dsimp only at H
    have A9 := Aside0.mk A90
    clear A90
    by_cases c10 : t426 = true
    ·subst c10
     have H1 : (weigh_Exact.l0 k1 x3_1 x4_1 true l0 (l0.length : Int) (wrap64 (x10_1 + 1))) = some r := by rw [if_pos rfl] at H; exact H
     clear H
     have H := H1
     clear H1
     have H' := Aside0.mk H
     clear H
     have p423 : 0 ≤ (x10_1 : Int) := sqD
     have q423 : x10_1 < (l0.length : Int) := sqD
     obtain ⟨ad423, e423, hx423_0⟩ := Kd.at_flt HR0.out x10_1 p423 q423
     cases e423
     replace hx423_0 := (HB.out.cell (World.block_lt_of_cell? w _ hx423_0)).trans hx423_0
     replace p423 := eq_true p423
     replace q423 := eq_true q423
     go_wp2_with (first | ((with_reducible refine gate_callee (f := 37) rfl ?_); refine goesL_ (some 25) rfl rfl Tryd.func37 (by kernel_rfl) rfl #[.float .f64 (rdOf 0 l0 x10_1), .int .i64 1] rfl sqA ?_; (with_reducible refine (math_IsInf.calls (rdOf 0 l0 x10_1) 1 false _ A7.out).mono ?_); rintro e w' ⟨rfl, ⟨nd, rfl⟩⟩; refine ⟨_, rfl, ?_⟩) | ((with_reducible refine gate_callee (f := 37) rfl ?_); refine goesL_ (some 28) rfl rfl Tryd.func37 (by kernel_rfl) rfl #[.float .f64 (rdOf 0 l0 x10_1), .int .i64 (-1)] rfl sqA ?_; (with_reducible refine (math_IsInf.calls (rdOf 0 l0 x10_1) (-1) true _ A9.out).mono ?_); rintro e w' ⟨rfl, ⟨nd, rfl⟩⟩; refine ⟨_, rfl, ?_⟩))
     go_roundg k1
     case measure => have := HK1.out; omega
     case rel => exact ⟨(x3_1), (x4_1), (true), (wrap64 (x10_1 + 1)), sqE, sqE, sqE, H', ⟨by have := HK1.out; omega⟩, ⟨sqR HO_3.out⟩, ⟨sqB⟩⟩
    replace c10 := Bool.eq_false_iff.mpr c10
    subst c10
    have H1 : (if x3_1.length < 17592186044416 then (weigh_Exact.l0 k1 (x3_1 ++ [rdOf 0 l0 x10_1]) x4_1 x5_1 l0 (l0.length : Int) (wrap64 (x10_1 + 1))) else (none)) = some r := by rw [if_neg (show ¬ (false = true) by decide)] at H; exact H
    clear H
    have H := H1
    clear H1
    by_cases c11 : x3_1.length < 17592186044416
    case neg => rw [if_neg c11] at H; exact absurd H (by simp)
    rw [if_pos c11] at H
    have LMc11 := Aside0.mk c11
    clear c11
    obtain ⟨y427, hy427⟩ : ∃ y_ : List Nat, y_ = (x3_1 ++ [rdOf 0 l0 x10_1]) := ⟨_, rfl⟩
    replace H : (weigh_Exact.l0 k1 y427 x4_1 x5_1 l0 (l0.length : Int) (wrap64 (x10_1 + 1))) = some r := by first | (rw [hy427]; with_reducible exact H) | (have H2_ := (Option.bind_some _ _).symm.trans H; rw [hy427]; with_reducible exact H2_) | (have H2_ := (Option.bind_some _ _).symm.trans H; with_reducible exact H2_) | with_reducible exact H | (rw [hy427]; exact H) | exact H
    have Ny427 := Aside0.mk hy427
    clear hy427
    have H' := Aside0.mk H
    clear H
    have p423 : 0 ≤ (x10_1 : Int) := sqD
    have q423 : x10_1 < (l0.length : Int) := sqD
    obtain ⟨ad423, e423, hx423_0⟩ := Kd.at_flt HR0.out x10_1 p423 q423
    cases e423
    replace hx423_0 := (HB.out.cell (World.block_lt_of_cell? w _ hx423_0)).trans hx423_0
    replace p423 := eq_true p423
    replace q423 := eq_true q423
    go_wp2_with (first | ((with_reducible refine gate_callee (f := 37) rfl ?_); refine goesL_ (some 25) rfl rfl Tryd.func37 (by kernel_rfl) rfl #[.float .f64 (rdOf 0 l0 x10_1), .int .i64 1] rfl sqA ?_; (with_reducible refine (math_IsInf.calls (rdOf 0 l0 x10_1) 1 false _ A7.out).mono ?_); rintro e w' ⟨rfl, ⟨nd, rfl⟩⟩; refine ⟨_, rfl, ?_⟩) | ((with_reducible refine gate_callee (f := 37) rfl ?_); refine goesL_ (some 28) rfl rfl Tryd.func37 (by kernel_rfl) rfl #[.float .f64 (rdOf 0 l0 x10_1), .int .i64 (-1)] rfl sqA ?_; (with_reducible refine (math_IsInf.calls (rdOf 0 l0 x10_1) (-1) false _ A9.out).mono ?_); rintro e w' ⟨rfl, ⟨nd, rfl⟩⟩; refine ⟨_, rfl, ?_⟩) | ((with_reducible refine gate_builtin (b := .append) (xs := #[.tmp 14, .tmp 16]) rfl ?_); at_builtin; refine Kd.R_append Kd.flt (w0 := w) w.heap.size rfl (.tmp 14) (.tmp 16) 44 23 (.float .f64 0) 8 rfl Tryd.underlying44 info23 rfl (by decide) (by omega) u3 x3_1 (rdOf 0 l0 x10_1) [.float .f64 (rdOf 0 l0 x10_1)] (fun _ => True) (fun _ => False) rfl rfl ?aP (fun _ hk => hk.elim) ?aF ?aO ?aB ?aS ?aL ?_; (case aP => exact rfl); (case aB => exact sqB); (case aF => exact (fun _ _ => trivial)); (case aO => exact (sqR HO_3.out)); (case aS => exact (below_size sqB)); (case aL => have := LMc11.out; omega); intro v428 w12 ho hb hg hat; rw [← Ny427.out] at ho; have n0_ := Aside0.mk (hb); have n1_ := Aside0.mk (ho); clear HB; clear HO_3; have HB := n0_; have HO429 := n1_; clear n0_ n1_; clear ho hb hg hat))
    go_roundg k1
    case measure => have := HK1.out; omega
    case rel => exact ⟨(y427), (x4_1), (x5_1), (wrap64 (x10_1 + 1)), sqE, sqE, sqE, H', ⟨by have := HK1.out; omega⟩, ⟨sqR HO429.out⟩, ⟨sqB⟩⟩
   rw [if_neg c2] at H
   have c2b0 := decide_eq_false c2
   clear c2
   have HC13 := Aside0.mk H
   clear H
   go_upto_region 14 with (fail)
   go_cut [30] (fun v30 wc => ∃ (kq : Nat) (x30_12 : Bool), v30 = .bool x30_12 ∧ Aside0 (weigh_Exact.j1 kq x3_1 x4_1 x5_1 x30_12 = some r) ∧ Aside0 (kq ≤ k1) ∧ Aside0 (Kd.R Kd.flt 23 wc w.heap.size (fun _ => True) u3 x3_1) ∧ Aside0 (Below w.heap.size w wc))
   case first =>
    have H := HC13.out
    clear HC13
    by_cases c14 : x4_1 = true
    ·subst c14
     have H1 : (weigh_Exact.j1 k1 x3_1 true x5_1 x5_1) = some r := by rw [if_pos rfl] at H; exact H
     clear H
     have H := H1
     clear H1
     have H' := Aside0.mk H
     clear H
     go_wp2
     go_meet
     case rel => exact ⟨_, (x5_1), sqE, H', ⟨by have := HK1.out; first | omega | exact Nat.le_refl _⟩, ⟨sqR HO_3.out⟩, ⟨sqB⟩⟩
    replace c14 := Bool.eq_false_iff.mpr c14
    subst c14
    have H1 : (weigh_Exact.j1 k1 x3_1 false x5_1 false) = some r := by rw [if_neg (show ¬ (false = true) by decide)] at H; exact H
    clear H
    have H := H1
    clear H1
    have H' := Aside0.mk H
    clear H
    go_wp2
    go_meet
    case rel => exact ⟨_, (false), sqE, H', ⟨by have := HK1.out; first | omega | exact Nat.le_refl _⟩, ⟨sqR HO_3.out⟩, ⟨sqB⟩⟩
   case rest =>
    clear HC13
    try clear c1
    try clear c2
    try clear c2b0
    try clear p2
    try clear c3
    try clear c3b0
    try clear c4
    try clear c4b0
    try clear p4
    try clear q4
    try clear hx4
    try clear c5
    try clear c5b0
    try clear c5b1
    try clear c5b2
    try clear p6
    try clear c8
    try clear c10
    try clear c11
    try clear c14
    try clear hx423_0
    try clear p423
    try clear q423
    obtain ⟨kq, x30_12, rfl, HA, HJ12, HO_3, HB⟩ := hcut
    cases kq with
    | zero => exact absurd HA.out (by simp [weigh_Exact.j1])
    | succ kj12 =>
     have H := HA.out
     clear HA
     simp only [weigh_Exact.j1] at H
     by_cases c15 : x30_12 = true
     ·subst c15
      have H1 : ((api_Float.f 9221120237041090560).bind fun t430 => (some t430)) = some r := by rw [if_pos rfl] at H; exact H
      clear H
      have H := H1
      clear H1
      replace H := Option.bind_eq_some_iff.mp H
      obtain ⟨t430, A160, H⟩ := H
      try dsimp only at H
      have A16 := Aside0.mk A160
      clear A160
      obtain rfl := Option.some.inj H
      go_wp2_with (first | ((with_reducible refine gate_callee (f := 11) rfl ?_); refine goesL_ (some 35) rfl rfl Tryd.func11 (by kernel_rfl) rfl #[.int .u64 9221120237041090560] rfl sqA ?_; (with_reducible refine (api_Float.calls 9221120237041090560 t430 _ A16.out).mono ?_); rintro e w' ⟨rfl, ⟨nd, rfl⟩⟩; refine ⟨_, rfl, ?_⟩))
      go_ret
      exact ⟨sqE', sqB⟩
     replace c15 := Bool.eq_false_iff.mpr c15
     subst c15
     have H1 : (if x4_1 = true then ((math_Inf.f 1).bind fun t431 => (some t431)) else (if x5_1 = true then ((math_Inf.f (-1)).bind fun t432 => (some t432)) else ((weigh_shared.f kj12 x3_1 1).bind fun t433 => (some t433)))) = some r := by rw [if_neg (show ¬ (false = true) by decide)] at H; exact H
     clear H
     have H := H1
     clear H1
     by_cases c17 : x4_1 = true
     ·subst c17
      have H1 : ((math_Inf.f 1).bind fun t431 => (some t431)) = some r := by rw [if_pos rfl] at H; exact H
      clear H
      have H := H1
      clear H1
      replace H := Option.bind_eq_some_iff.mp H
      obtain ⟨t431, A180, H⟩ := H
      try dsimp only at H
      have A18 := Aside0.mk A180
      clear A180
      obtain rfl := Option.some.inj H
      go_wp2_with (first | ((with_reducible refine gate_callee (f := 42) rfl ?_); refine goesL_ (some 38) rfl rfl Tryd.func42 (by kernel_rfl) rfl #[.int .i64 1] rfl sqA ?_; (with_reducible refine (math_Inf.calls 1 t431 _ A18.out).mono ?_); rintro e w' ⟨rfl, ⟨nd, rfl⟩⟩; refine ⟨_, rfl, ?_⟩))
      go_ret
      exact ⟨sqE', sqB⟩
     replace c17 := Bool.eq_false_iff.mpr c17
     subst c17
     have H1 : (if x5_1 = true then ((math_Inf.f (-1)).bind fun t432 => (some t432)) else ((weigh_shared.f kj12 x3_1 1).bind fun t433 => (some t433))) = some r := by rw [if_neg (show ¬ (false = true) by decide)] at H; exact H
     clear H
     have H := H1
     clear H1
     by_cases c19 : x5_1 = true
     ·subst c19
      have H1 : ((math_Inf.f (-1)).bind fun t432 => (some t432)) = some r := by rw [if_pos rfl] at H; exact H
      clear H
      have H := H1
      clear H1
      replace H := Option.bind_eq_some_iff.mp H
      obtain ⟨t432, A200, H⟩ := H
      try dsimp only at H
      have A20 := Aside0.mk A200
      clear A200
      obtain rfl := Option.some.inj H
      go_wp2_with (first | ((with_reducible refine gate_callee (f := 42) rfl ?_); refine goesL_ (some 41) rfl rfl Tryd.func42 (by kernel_rfl) rfl #[.int .i64 (-1)] rfl sqA ?_; (with_reducible refine (math_Inf.calls (-1) t432 _ A20.out).mono ?_); rintro e w' ⟨rfl, ⟨nd, rfl⟩⟩; refine ⟨_, rfl, ?_⟩))
      go_ret
      exact ⟨sqE', sqB⟩
     replace c19 := Bool.eq_false_iff.mpr c19
     subst c19
     have H1 : ((weigh_shared.f kj12 x3_1 1).bind fun t433 => (some t433)) = some r := by rw [if_neg (show ¬ (false = true) by decide)] at H; exact H
     clear H
     have H := H1
     clear H1
     replace H := Option.bind_eq_some_iff.mp H
     obtain ⟨t433, A210, H⟩ := H
     try dsimp only at H
     have A21 := Aside0.mk A210
     clear A210
     obtain rfl := Option.some.inj H
     obtain ⟨Ao22, co22, eo22⟩ := Kd.R_slice HO_3.out
     subst eo22
     go_wp2_with (first | ((with_reducible refine gate_callee (f := 52) rfl ?_); refine goesL_ (some 43) rfl rfl Tryd.func52 (by kernel_rfl) rfl #[.slice Ao22 x3_1.length co22, .int .i64 1] rfl sqA ?_; (with_reducible refine (weigh_shared.calls kj12 _ _ x3_1 1 t433 _ ?side1 ?side2 A21.out).mono ?_); (case side1 => repeat (first | exact (Kd.R_reads' HO_3.out).2.2 | (with_reducible refine Kd.C_alloc ?_ _) | (with_reducible refine Kd.C_drewN ?_ _) | (with_reducible refine Kd.C_drew ?_))); (case side2 => exact (Kd.R_reads' HO_3.out).2.1); rintro e w23 ⟨rfl, hb⟩; refine ⟨_, rfl, ?_⟩; have n0_ := Aside0.mk (Kd.R_below (sqR HO_3.out) hb); have n1_ := Aside0.mk (below_step sqB hb); clear HO_3; clear HB; have HO_3 := n0_; have HB := n1_; clear n0_ n1_; (try clear hb); (try clear hb2); (try clear hk); (try clear hi)))
     go_ret
     exact ⟨sqE', sqB⟩

/-! ### weigh_Mean: function 24 -/
def weigh_Mean.l0 : Nat → List Nat → List Nat → Int → Int → Option (Nat × Bool)
 | 0, _, _, _, _ => none
 | k + 1, x0, x9, x10, x11 => if x11 < x10 then (if 0 ≤ x11 then (if x11 < (x9.length : Int) then (if (FloatKind.f64.format.order (rdOf 0 x9 x11) (rdOf 0 x9 x11) != some .eq) = true then (some ((0 : Nat), false)) else ((math_IsInf.f (rdOf 0 x9 x11) 0).bind fun t435 => (if t435 = true then (some ((0 : Nat), false)) else (weigh_Mean.l0 k x0 x9 x10 (wrap64 (x11 + 1)))))) else (none)) else (none)) else ((weigh_shared.f k x0 (x0.length : Int)).bind fun t436 => (some (t436, true)))
def weigh_Mean.f (k : Nat) (l0 : List Nat) : Option (Nat × Bool) := if (l0.length : Int) = 0 then (some ((0 : Nat), false)) else (weigh_Mean.l0 k l0 l0 (l0.length : Int) 0)
theorem weigh_Mean.mono_l : ∀ k, (∀ y0 y1 y2 y3, LeO (weigh_Mean.l0 k y0 y1 y2 y3) (weigh_Mean.l0 (k + 1) y0 y1 y2 y3))
 | 0 => fun _ _ _ _ r h => by simp [weigh_Mean.l0] at h
 | k + 1 => by
  have ih0 := weigh_Mean.mono_l k
  intro y0 y1 y2 y3
  unfold weigh_Mean.l0
  repeat' first | (with_reducible first | apply ih0 | apply weigh_shared.mono | apply LeO.refl | apply LeO.none | refine LeO.ite ?_ ?_ | refine LeO.bind ?_ (fun _ => ?_)) | apply ih0 | apply weigh_shared.mono | apply LeO.none | refine LeO.ite ?_ ?_ | refine LeO.bind ?_ (fun _ => ?_)
theorem weigh_Mean.mono : ∀ a0 k, LeO (weigh_Mean.f k a0) (weigh_Mean.f (k + 1) a0) := by
 intro a0 k
 have ih0 := weigh_Mean.mono_l k
 unfold weigh_Mean.f
 repeat' first | (with_reducible first | apply ih0 | apply weigh_shared.mono | apply LeO.refl | apply LeO.none | refine LeO.ite ?_ ?_ | refine LeO.bind ?_ (fun _ => ?_)) | apply ih0 | apply weigh_shared.mono | apply LeO.none | refine LeO.ite ?_ ?_ | refine LeO.bind ?_ (fun _ => ?_)
set_option maxHeartbeats 8000000 in
set_option maxRecDepth 100000 in
theorem weigh_Mean.calls (k : Nat) (A0 : Option Addr) (c0 : Nat) (l0 : List Nat) (r1 : Nat) (r2 : Bool) (w : World) (hr0 : Kd.C Kd.flt w A0 l0.length l0) (hc0 : l0.length ≤ c0) (h : weigh_Mean.f k l0 = some (r1, r2)) :
  Calls Tryd.prog 24 #[.slice A0 l0.length c0] w fun e w' => e = .returned (.tuple #[.float .f64 r1, .bool r2]) ∧ Below w.heap.size w w' := by
 have HR0 := Aside0.mk hr0
 have HC0 := Aside0.mk hc0
 clear hr0 hc0
 have HB := Aside0.mk (Below.refl w.heap.size w)
 have H : (if (l0.length : Int) = 0 then (some ((0 : Nat), false)) else (weigh_Mean.l0 k l0 l0 (l0.length : Int) 0)) = some (r1, r2) := h
 clear h
 by_cases c2 : (l0.length : Int) = 0
 ·rw [if_pos c2] at H
  have c2b0 := beq_iff_eq.mpr c2
  have c2b1 := bne_eq_false_iff_eq.mpr c2
  clear c2
  simp only [Option.some.injEq, Prod.mk.injEq] at H
  obtain ⟨rfl, rfl⟩ := H
  go_enter Tryd.func24, Tryd.ntmps24
  go_wp2
  go_ret2
  exact ⟨sqE', sqB⟩
 rw [if_neg c2] at H
 have c2b0 := beq_eq_false_iff_ne.mpr c2
 have c2b1 := bne_iff_ne.mpr c2
 have c2b2 : ¬ (l0 = []) := fun h_ => c2 (by rw [h_]; rfl)
 have H' := Aside0.mk H
 clear H
 go_enter Tryd.func24, Tryd.ntmps24
 go_wp2
 go_loopg [11] k (fun kq v11 w' => ∃ (x11_1 : Int), v11 = .int .i64 x11_1 ∧ Aside0 (weigh_Mean.l0 kq l0 l0 (l0.length : Int) x11_1 = some (r1, r2)) ∧ Aside0 (kq ≤ k) ∧ Aside0 (Below w.heap.size w w'))
 case atStart => exact ⟨(0), sqE, H', ⟨Nat.le_refl _⟩, ⟨sqB⟩⟩
 case round =>
  clear H'
  try clear c2
  try clear c2b0
  try clear c2b1
  try clear c2b2
  try clear p2
  obtain ⟨x11_1, rfl, HA, HK1, HB⟩ := hrel
  cases gk with
  | zero => exact absurd HA.out (by simp [weigh_Mean.l0])
  | succ k1 =>
   have H := HA.out
   clear HA
   simp only [weigh_Mean.l0] at H
   by_cases c3 : x11_1 < (l0.length : Int)
   ·rw [if_pos c3] at H
    have c3b0 := decide_eq_true c3
    clear c3
    by_cases c4 : 0 ≤ x11_1
    case neg => rw [if_neg c4] at H; exact absurd H (by simp)
    rw [if_pos c4] at H
    have c4b0 := decide_eq_true c4
    clear c4
    by_cases c5 : x11_1 < (l0.length : Int)
    case neg => rw [if_neg c5] at H; exact absurd H (by simp)
    rw [if_pos c5] at H
    have c5b0 := decide_eq_true c5
    clear c5
    by_cases c6 : (FloatKind.f64.format.order (rdOf 0 l0 x11_1) (rdOf 0 l0 x11_1) != some .eq) = true
    ·rw [if_pos c6] at H
     have c6b0 : (FloatKind.f64.format.order (rdOf 0 l0 x11_1) (rdOf 0 l0 x11_1) != some .eq) = true := c6
     (try (have c6b1 : decide (FloatKind.f64.format.order (rdOf 0 l0 x11_1) (rdOf 0 l0 x11_1) = some .eq) = false := by simpa using c6))
     (try (have c6b2 : (FloatKind.f64.format.order (rdOf 0 l0 x11_1) (rdOf 0 l0 x11_1) == some .eq) = false := by simpa using c6))
     (try (have c6b3 : ¬ (FloatKind.f64.format.order (rdOf 0 l0 x11_1) (rdOf 0 l0 x11_1) = some .eq) := by simpa using c6))
     clear c6
     simp only [Option.some.injEq, Prod.mk.injEq] at H
     obtain ⟨rfl, rfl⟩ := H
     have p434 : 0 ≤ (x11_1 : Int) := sqD
     have q434 : x11_1 < (l0.length : Int) := sqD
     obtain ⟨ad434, e434, hx434_0⟩ := Kd.at_flt HR0.out x11_1 p434 q434
     cases e434
     replace hx434_0 := (HB.out.cell (World.block_lt_of_cell? w _ hx434_0)).trans hx434_0
     replace p434 := eq_true p434
     replace q434 := eq_true q434
     go_wp2
     go_ret2
     exact ⟨sqE', sqB⟩
    rw [if_neg c6] at H
    have c6b0 : (FloatKind.f64.format.order (rdOf 0 l0 x11_1) (rdOf 0 l0 x11_1) != some .eq) = false := by simpa using c6
    (try (have c6b1 : decide (FloatKind.f64.format.order (rdOf 0 l0 x11_1) (rdOf 0 l0 x11_1) = some .eq) = true := by simpa using c6))
    (try (have c6b2 : (FloatKind.f64.format.order (rdOf 0 l0 x11_1) (rdOf 0 l0 x11_1) == some .eq) = true := by simpa using c6))
    clear c6
    replace H := Option.bind_eq_some_iff.mp H
    obtain ⟨t435, A70, H⟩ := H
    try dsimp only at H
    have A7 := Aside0.mk A70
    clear A70
    by_cases c8 : t435 = true
    ·subst c8
     have H1 : (some ((0 : Nat), false)) = some (r1, r2) := by rw [if_pos rfl] at H; exact H
     clear H
     have H := H1
     clear H1
     simp only [Option.some.injEq, Prod.mk.injEq] at H
     obtain ⟨rfl, rfl⟩ := H
     have p434 : 0 ≤ (x11_1 : Int) := sqD
     have q434 : x11_1 < (l0.length : Int) := sqD
     obtain ⟨ad434, e434, hx434_0⟩ := Kd.at_flt HR0.out x11_1 p434 q434
     cases e434
     replace hx434_0 := (HB.out.cell (World.block_lt_of_cell? w _ hx434_0)).trans hx434_0
     replace p434 := eq_true p434
     replace q434 := eq_true q434
     go_wp2_with (first | (go_at_call 37; (with_reducible refine (math_IsInf.calls (rdOf 0 l0 x11_1) 0 true _ A7.out).mono ?_); rintro e w' ⟨rfl, ⟨nd, rfl⟩⟩))
     go_ret2
     exact ⟨sqE', sqB⟩
    replace c8 := Bool.eq_false_iff.mpr c8
    subst c8
    have H1 : (weigh_Mean.l0 k1 l0 l0 (l0.length : Int) (wrap64 (x11_1 + 1))) = some (r1, r2) := by rw [if_neg (show ¬ (false = true) by decide)] at H; exact H
    clear H
    have H := H1
    clear H1
    have H' := Aside0.mk H
    clear H
    have p434 : 0 ≤ (x11_1 : Int) := sqD
    have q434 : x11_1 < (l0.length : Int) := sqD
    obtain ⟨ad434, e434, hx434_0⟩ := Kd.at_flt HR0.out x11_1 p434 q434
    cases e434
    replace hx434_0 := (HB.out.cell (World.block_lt_of_cell? w _ hx434_0)).trans hx434_0
    replace p434 := eq_true p434
    replace q434 := eq_true q434
    go_wp2_with (first | (go_at_call 37; (with_reducible refine (math_IsInf.calls (rdOf 0 l0 x11_1) 0 false _ A7.out).mono ?_); rintro e w' ⟨rfl, ⟨nd, rfl⟩⟩))
    go_roundg k1
    case measure => have := HK1.out; omega
    case rel => exact ⟨(wrap64 (x11_1 + 1)), sqE, H', ⟨by have := HK1.out; omega⟩, ⟨sqB⟩⟩
   rw [if_neg c3] at H
   have c3b0 := decide_eq_false c3
   clear c3
   replace H := Option.bind_eq_some_iff.mp H
   obtain ⟨t436, A90, H⟩ := H
   try dsimp only at H
   have A9 := Aside0.mk A90
   clear A90
   simp only [Option.some.injEq, Prod.mk.injEq] at H
   obtain ⟨rfl, rfl⟩ := H
   go_wp2_with (first | ((with_reducible refine gate_callee (f := 52) rfl ?_); refine goesL_ (some 26) rfl rfl Tryd.func52 (by kernel_rfl) rfl #[.slice A0 l0.length c0, .int .i64 (l0.length : Int)] rfl sqA ?_; (with_reducible refine (weigh_shared.calls k1 _ _ l0 (l0.length : Int) t436 _ ?side1 ?side2 A9.out).mono ?_); (case side1 => repeat (first | exact (Kd.C_below HR0.out HB.out) | (with_reducible refine Kd.C_alloc ?_ _) | (with_reducible refine Kd.C_drewN ?_ _) | (with_reducible refine Kd.C_drew ?_))); (case side2 => exact HC0.out); rintro e w10 ⟨rfl, hb⟩; refine ⟨_, rfl, ?_⟩; have n0_ := Aside0.mk (below_step sqB hb); clear HB; have HB := n0_; clear n0_; (try clear hb); (try clear hb2); (try clear hk); (try clear hi)))
   go_ret2
   exact ⟨sqE', sqB⟩

/-! ### weigh_Sum: function 26 -/
def weigh_Sum.l0 : Nat → Nat → List Nat → Int → Int → Option (Nat)
 | 0, _, _, _, _ => none
 | k + 1, x3, x6, x7, x8 => if x8 < x7 then (if 0 ≤ x8 then (if x8 < (x6.length : Int) then ((floatBits .add .f64 x3 (rdOf 0 x6 x8)).bind fun t438 => (weigh_Sum.l0 k t438 x6 x7 (wrap64 (x8 + 1)))) else (none)) else (none)) else (some x3)
def weigh_Sum.f (k : Nat) (l0 : List Nat) : Option (Nat) := weigh_Sum.l0 k (0 : Nat) l0 (l0.length : Int) 0
theorem weigh_Sum.mono_l : ∀ k, (∀ y0 y1 y2 y3, LeO (weigh_Sum.l0 k y0 y1 y2 y3) (weigh_Sum.l0 (k + 1) y0 y1 y2 y3))
 | 0 => fun _ _ _ _ r h => by simp [weigh_Sum.l0] at h
 | k + 1 => by
  have ih0 := weigh_Sum.mono_l k
  intro y0 y1 y2 y3
  unfold weigh_Sum.l0
  repeat' first | (with_reducible first | apply ih0 | apply LeO.refl | apply LeO.none | refine LeO.ite ?_ ?_ | refine LeO.bind ?_ (fun _ => ?_)) | apply ih0 | apply LeO.none | refine LeO.ite ?_ ?_ | refine LeO.bind ?_ (fun _ => ?_)
theorem weigh_Sum.mono : ∀ a0 k, LeO (weigh_Sum.f k a0) (weigh_Sum.f (k + 1) a0) := by
 intro a0 k
 have ih0 := weigh_Sum.mono_l k
 unfold weigh_Sum.f
 repeat' first | (with_reducible first | apply ih0 | apply LeO.refl | apply LeO.none | refine LeO.ite ?_ ?_ | refine LeO.bind ?_ (fun _ => ?_)) | apply ih0 | apply LeO.none | refine LeO.ite ?_ ?_ | refine LeO.bind ?_ (fun _ => ?_)
set_option maxHeartbeats 8000000 in
set_option maxRecDepth 100000 in
theorem weigh_Sum.calls (k : Nat) (A0 : Option Addr) (c0 : Nat) (l0 : List Nat) (r : Nat) (w : World) (hr0 : Kd.C Kd.flt w A0 l0.length l0) (hc0 : l0.length ≤ c0) (h : weigh_Sum.f k l0 = some r) :
  Calls Tryd.prog 26 #[.slice A0 l0.length c0] w fun e w' => e = .returned (.float .f64 r) ∧ Drawn0 w w' := by
 have HR0 := Aside0.mk hr0
 have HC0 := Aside0.mk hc0
 clear hr0 hc0
 have H : (weigh_Sum.l0 k (0 : Nat) l0 (l0.length : Int) 0) = some r := h
 clear h
 have H' := Aside0.mk H
 clear H
 go_enter Tryd.func26, Tryd.ntmps26
 go_wp2
 go_loopg [3, 8] k (fun kq v3 v8 w' => ∃ (x3_1 : Nat) (x8_1 : Int), v3 = .float .f64 x3_1 ∧ v8 = .int .i64 x8_1 ∧ Aside0 (weigh_Sum.l0 kq x3_1 l0 (l0.length : Int) x8_1 = some r) ∧ Aside0 (kq ≤ k) ∧ Drawn0 w w')
 case atStart => exact ⟨((0 : Nat)), (0), sqE, sqE, H', ⟨Nat.le_refl _⟩, sqW⟩
 case round =>
  clear H'
  obtain ⟨x3_1, x8_1, rfl, rfl, HA, HK1, ⟨m1, rfl⟩⟩ := hrel
  cases gk with
  | zero => exact absurd HA.out (by simp [weigh_Sum.l0])
  | succ k1 =>
   have H := HA.out
   clear HA
   simp only [weigh_Sum.l0] at H
   by_cases c2 : x8_1 < (l0.length : Int)
   ·rw [if_pos c2] at H
    have c2b0 := decide_eq_true c2
    clear c2
    by_cases c3 : 0 ≤ x8_1
    case neg => rw [if_neg c3] at H; exact absurd H (by simp)
    rw [if_pos c3] at H
    have c3b0 := decide_eq_true c3
    clear c3
    by_cases c4 : x8_1 < (l0.length : Int)
    case neg => rw [if_neg c4] at H; exact absurd H (by simp)
    rw [if_pos c4] at H
    have c4b0 := decide_eq_true c4
    clear c4
    replace H := Option.bind_eq_some_iff.mp H
    obtain ⟨t438, A50, H⟩ := H
    try dsimp only at H
    have hf6 : ∀ w_ : World, Sem.run Tryd.prog (binOp .add 23 (.float .f64 x3_1) (.float .f64 (rdOf 0 l0 x8_1))) w_ = .ok (.float .f64 t438) w_ := fun w_ => run_float_arith w_ .add 23 .f64 x3_1 (rdOf 0 l0 x8_1) t438 A50
    clear A50
    have H' := Aside0.mk H
    clear H
    have p437 : 0 ≤ (x8_1 : Int) := sqD
    have q437 : x8_1 < (l0.length : Int) := sqD
    obtain ⟨ad437, e437, hx437_0⟩ := Kd.at_flt HR0.out x8_1 p437 q437
    cases e437
    replace p437 := eq_true p437
    replace q437 := eq_true q437
    go_wp2
    go_roundg k1
    case measure => have := HK1.out; omega
    case rel => exact ⟨(t438), (wrap64 (x8_1 + 1)), sqE, sqE, H', ⟨by have := HK1.out; omega⟩, sqW⟩
   rw [if_neg c2] at H
   have c2b0 := decide_eq_false c2
   clear c2
   obtain rfl := Option.some.inj H
   go_wp2
   go_ret
   exact ⟨sqE, sqW⟩

/-! ### weigh_Pairs: function 27 -/
def weigh_Pairs.f : Nat → List Nat → Option (Nat)
 | 0, _ => none
 | k + 1, l0 => if (l0.length : Int) = 0 then (some (0 : Nat)) else (if (l0.length : Int) = 1 then (if 0 < (l0.length : Int) then (some (rdOf 0 l0 0)) else (none)) else (if 0 ≤ (wrap64 ((l0.length : Int) / 2)) then (if (wrap64 ((l0.length : Int) / 2)) ≤ (l0.length : Int) then ((weigh_Pairs.f k (l0.take ((wrap64 ((l0.length : Int) / 2)) : Int).toNat)).bind fun t441 => ((weigh_Pairs.f k (l0.drop ((wrap64 ((l0.length : Int) / 2)) : Int).toNat)).bind fun t443 => ((floatBits .add .f64 t441 t443).bind fun t444 => (some t444)))) else (none)) else (none)))
theorem weigh_Pairs.mono_l : ∀ k, (∀ y0, LeO (weigh_Pairs.f k y0) (weigh_Pairs.f (k + 1) y0))
 | 0 => fun _ r h => by simp [weigh_Pairs.f] at h
 | k + 1 => by
  have ih0 := weigh_Pairs.mono_l k
  intro y0
  unfold weigh_Pairs.f
  repeat' first | (with_reducible first | apply ih0 | apply LeO.refl | apply LeO.none | refine LeO.ite ?_ ?_ | refine LeO.bind ?_ (fun _ => ?_)) | apply ih0 | apply LeO.none | refine LeO.ite ?_ ?_ | refine LeO.bind ?_ (fun _ => ?_)
theorem weigh_Pairs.mono : ∀ a0 k, LeO (weigh_Pairs.f k a0) (weigh_Pairs.f (k + 1) a0) := by
 intro a0 k
 have ih0 := weigh_Pairs.mono_l k
 exact ih0 a0
def weigh_Pairs.T7 : Bool × List (List Nat × List Nat) := (true, [([], []), ([], []), ([0, 1], [0, 1]), ([2], [2]), ([], []), ([], []), ([4, 5], [4, 5]), ([6, 3], [6]), ([3, 7], [3, 7]), ([8, 7, 0, 1, 2, 3, 4, 5, 6, 7, 8], [8])])
def weigh_Pairs.B7 : List Nat := [0, 0, 3, 7, 0, 0, 48, 127, 255, 511]
theorem weigh_Pairs.tab7 : rtab .any (opsOf Tryd.f27 7) = weigh_Pairs.T7 := by kernel_rfl
theorem weigh_Pairs.bits7 : waitsOk weigh_Pairs.T7.2 weigh_Pairs.B7 = true := by kernel_rfl
set_option maxHeartbeats 8000000 in
set_option maxRecDepth 100000 in
theorem weigh_Pairs.calls (k : Nat) : ∀ (A0 : Option Addr) (c0 : Nat) (l0 : List Nat) (r : Nat) (w : World) (hr0 : Kd.C Kd.flt w A0 l0.length l0) (hc0 : l0.length ≤ c0) (h : weigh_Pairs.f k l0 = some r),
  Calls Tryd.prog 27 #[.slice A0 l0.length c0] w fun e w' => e = .returned (.float .f64 r) ∧ Below w.heap.size w w' := by
 induction k using Nat.strongRecOn with
 | _ k ih =>
 intro A0 c0 l0 r w hr0 hc0 h
 cases k with
 | zero => exact absurd h (by simp [weigh_Pairs.f])
 | succ k =>
 simp only [weigh_Pairs.f] at h
 have HR0 := Aside0.mk hr0
 have HC0 := Aside0.mk hc0
 clear hr0 hc0
 have HB := Aside0.mk (Below.refl w.heap.size w)
 have H : (if (l0.length : Int) = 0 then (some (0 : Nat)) else (if (l0.length : Int) = 1 then (if 0 < (l0.length : Int) then (some (rdOf 0 l0 0)) else (none)) else (if 0 ≤ (wrap64 ((l0.length : Int) / 2)) then (if (wrap64 ((l0.length : Int) / 2)) ≤ (l0.length : Int) then ((weigh_Pairs.f k (l0.take ((wrap64 ((l0.length : Int) / 2)) : Int).toNat)).bind fun t441 => ((weigh_Pairs.f k (l0.drop ((wrap64 ((l0.length : Int) / 2)) : Int).toNat)).bind fun t443 => ((floatBits .add .f64 t441 t443).bind fun t444 => (some t444)))) else (none)) else (none)))) = some r := h
 clear h
 by_cases c2 : (l0.length : Int) = 0
 ·rw [if_pos c2] at H
  have c2b0 := beq_iff_eq.mpr c2
  have c2b1 := bne_eq_false_iff_eq.mpr c2
  clear c2
  obtain rfl := Option.some.inj H
  go_enter Tryd.func27, Tryd.ntmps27
  go_wp2
  go_ret
  exact ⟨sqE', sqB⟩
 rw [if_neg c2] at H
 have c2b0 := beq_eq_false_iff_ne.mpr c2
 have c2b1 := bne_iff_ne.mpr c2
 have c2b2 : ¬ (l0 = []) := fun h_ => c2 (by rw [h_]; rfl)
 by_cases c3 : (l0.length : Int) = 1
 ·rw [if_pos c3] at H
  have c3b0 := beq_iff_eq.mpr c3
  have c3b1 := bne_eq_false_iff_eq.mpr c3
  clear c3
  by_cases c4 : 0 < (l0.length : Int)
  case neg => rw [if_neg c4] at H; exact absurd H (by simp)
  rw [if_pos c4] at H
  have c4b0 := decide_eq_true c4
  have c4b1 : decide (0 < l0.length) = true := decide_eq_true (by omega)
  clear c4
  obtain rfl := Option.some.inj H
  have p439 : 0 ≤ (0 : Int) := (by omega)
  have q439 : 0 < (l0.length : Int) := sqD
  obtain ⟨ad439, e439, hx439_0⟩ := Kd.at_flt HR0.out 0 p439 q439
  cases e439
  have qi439 : (0 < l0.length) = True := eq_true (by omega)
  (try rw [show ((0 : Int)).toNat = 0 from rfl] at hx439_0)
  (try rw [Addr.add_zero'] at hx439_0)
  replace p439 := eq_true p439
  replace q439 := eq_true q439
  go_enter Tryd.func27, Tryd.ntmps27
  go_wp2
  go_ret
  exact ⟨sqE', sqB⟩
 rw [if_neg c3] at H
 have c3b0 := beq_eq_false_iff_ne.mpr c3
 have c3b1 := bne_iff_ne.mpr c3
 obtain ⟨ji5, hji5⟩ : ∃ j_ : Int, (wrap64 ((l0.length : Int) / 2)) = j_ := ⟨_, rfl⟩
 replace H : (if 0 ≤ (ji5) then (if (ji5) ≤ (l0.length : Int) then ((weigh_Pairs.f k (l0.take ((ji5) : Int).toNat)).bind fun t441 => ((weigh_Pairs.f k (l0.drop ((ji5) : Int).toNat)).bind fun t443 => ((floatBits .add .f64 t441 t443).bind fun t444 => (some t444)))) else (none)) else (none)) = some r := by first | (rw [hji5] at H; exact H) | (simp only [hji5] at H ⊢; exact H)
 have hji5w : (IntKind.i64.wrap ((l0.length : Int) / 2)) = ji5 := (i64_w _).trans hji5
 by_cases c6 : 0 ≤ (ji5)
 case neg => rw [if_neg c6] at H; exact absurd H (by simp)
 rw [if_pos c6] at H
 have c6b0 := eq_true c6
 have c6b1 := decide_eq_true c6
 clear c6
 by_cases c7 : (ji5) ≤ (l0.length : Int)
 case neg => rw [if_neg c7] at H; exact absurd H (by simp)
 rw [if_pos c7] at H
 have c7b0 := eq_true c7
 have c7b1 := decide_eq_true c7
 clear c7
 replace H := Option.bind_eq_some_iff.mp H
 obtain ⟨t441, A80, H⟩ := H
 try dsimp only at H
 have A8 := Aside0.mk A80
 clear A80
 have c9b0 := eq_true (sqD : 0 ≤ (ji5))
 have c10b0 := eq_true (sqD : (ji5) ≤ (l0.length : Int))
 replace H := Option.bind_eq_some_iff.mp H
 obtain ⟨t443, A110, H⟩ := H
 try dsimp only at H
 have A11 := Aside0.mk A110
 clear A110
 replace H := Option.bind_eq_some_iff.mp H
 obtain ⟨t444, A120, H⟩ := H
 try dsimp only at H
 have hf13 : ∀ w_ : World, Sem.run Tryd.prog (binOp .add 23 (.float .f64 t441) (.float .f64 t443)) w_ = .ok (.float .f64 t444) w_ := fun w_ => run_float_arith w_ .add 23 .f64 t441 t443 t444 A120
 clear A120
 obtain rfl := Option.some.inj H
 go_enter Tryd.func27, Tryd.ntmps27
 try go_wp2
 have n0_ := Aside0.mk (below_drew1 HB.out)
 clear HB
 have HB := n0_
 clear n0_
 obtain ⟨i015, hi015, _, hsz15, _⟩ := info_parts info23
 obtain ⟨hcut15, hA15, hC15⟩ := print_take_of (P := Tryd.prog) (Value.float .f64) (0 : Nat) 44 23 .i64 Tryd.underlying44 hi015 hsz15 A0 c0 l0 (ji5) sqD sqD HC0.out
 have HR440 := Aside0.mk (Kd.C_of_reads (h1 := fun _ => rfl) (hA15 _ (Kd.reads_of_C HR0.out)))
 have HC440 := Aside0.mk hC15
 clear hA15 hC15 hi015 hsz15
 obtain ⟨i016, hi016, _, hsz16, _⟩ := info_parts info23
 obtain ⟨A16, hcut16, hA16, hC16⟩ := print_drop_of (P := Tryd.prog) (Value.float .f64) (0 : Nat) 44 23 .i64 Tryd.underlying44 hi016 hsz16 A0 c0 l0 (ji5) sqD sqD HC0.out
 have HR442 := Aside0.mk (Kd.C_of_reads (h1 := fun _ => rfl) (hA16 _ (Kd.reads_of_C HR0.out)))
 have HC442 := Aside0.mk hC16
 clear hA16 hC16 hi016 hsz16
 refine start_ (n := 10) (S := fun w' => True) (ds := []) #[false, false, false, false, false, false, false, false, false, false] (by kernel_rfl) rfl rfl trivial (fun hHeld => ?_); refine with_tabW weigh_Pairs.tab7 weigh_Pairs.bits7 (fun HT_ HW_ => ?_)
 generalize w.drew = w14 at HB HR440 HR442 hHeld ⊢
 refine pure_ (i := 0) (N := some 16) (v := ?_) (a' := ?_) #[true, false, false, false, false, false, false, false, false, false] rfl rfl (any_of HT_.out (by kernel_rfl)) (fun _ _ _ h => h) (Or.inl ⟨by rfl, ?_⟩) ?_ ?_
 rotate_left
 ·intro w'
  go_simp
  with_reducible rfl
 rotate_left
 ·simp only [Act.put, List.setIfInBounds_toArray, List.set_cons_zero, List.set_cons_succ, i64_w, i32_w]
  rfl
 refine pure_ (i := 1) (N := some 17) (v := ?_) (a' := ?_) #[true, true, false, false, false, false, false, false, false, false] rfl rfl (any_of HT_.out (by kernel_rfl)) (fun _ _ _ h => h) (Or.inl ⟨by rfl, ?_⟩) ?_ ?_
 rotate_left
 ·intro w'
  go_simp
  with_reducible rfl
 rotate_left
 ·simp only [Act.put, List.setIfInBounds_toArray, List.set_cons_zero, List.set_cons_succ, i64_w, i32_w]
  rfl
 refine pure_ (i := 2) (N := some 18) (v := ?_) (a' := ?_) #[true, true, true, false, false, false, false, false, false, false] rfl rfl (any_of HT_.out (by kernel_rfl)) (fun _ _ _ h => h) (Or.inl ⟨by rfl, ?_⟩) ?_ ?_
 rotate_left
 ·intro w'
  go_simp
  with_reducible rfl
 rotate_left
 ·simp only [Act.put, List.setIfInBounds_toArray, List.set_cons_zero, List.set_cons_succ, i64_w, i32_w]
  rfl
 refine pure_ (i := 4) (N := some 20) (v := ?_) (a' := ?_) #[true, true, true, false, true, false, false, false, false, false] rfl rfl (any_of HT_.out (by kernel_rfl)) (fun _ _ _ h => h) (Or.inl ⟨by rfl, ?_⟩) ?_ ?_
 rotate_left
 ·intro w'
  go_simp
  with_reducible rfl
 rotate_left
 ·simp only [Act.put, List.setIfInBounds_toArray, List.set_cons_zero, List.set_cons_succ, i64_w, i32_w]
  rfl
 refine pure_ (i := 5) (N := some 21) (v := ?_) (a' := ?_) #[true, true, true, false, true, true, false, false, false, false] rfl rfl (any_of HT_.out (by kernel_rfl)) (fun _ _ _ h => h) (Or.inl ⟨by rfl, ?_⟩) ?_ ?_
 rotate_left
 ·intro w'
  go_simp
  with_reducible rfl
 rotate_left
 ·simp only [Act.put, List.setIfInBounds_toArray, List.set_cons_zero, List.set_cons_succ, i64_w, i32_w]
  rfl
 refine pure_ (i := 6) (N := some 22) (v := ?_) (a' := ?_) #[true, true, true, false, true, true, true, false, false, false] rfl rfl (any_of HT_.out (by kernel_rfl)) (fun _ _ _ h => h) (Or.inl ⟨by rfl, ?_⟩) ?_ ?_
 rotate_left
 ·intro w'
  go_simp
  with_reducible rfl
 rotate_left
 ·simp only [Act.put, List.setIfInBounds_toArray, List.set_cons_zero, List.set_cons_succ, i64_w, i32_w]
  rfl
 refine one_ (i := 3) (N := some 19) #[true, true, true, true, true, true, true, false, false, false] rfl rfl (one_of HT_.out (by kernel_rfl)) (by decide) (fun K hK => ?_)
 refine goes_ Tryd.func27 (by kernel_rfl) rfl #[.slice A0 (l0.take ((ji5) : Int).toNat).length c0] (by rfl) rfl rfl (by (try simp only [List.map_toArray, List.map_cons, List.map_nil]); first | done | (rw [show (l0.take ((ji5) : Int).toNat).length = (ji5).toNat from (by rw [List.length_take]; have h_ : ((ji5) : Int) ≤ (l0.length : Int) := sqD; omega)] <;> rfl) | (simp only [hji5]; rfl) | rfl | (simp only [List.length_drop, List.length_take]; rfl)) ?_
 with_reducible refine (ih k (by omega) _ _ (l0.take ((ji5) : Int).toNat) t441 _ ?side1 ?side2 A8.out).mono ?_
 (case side1 => repeat (first | exact (Kd.C_below HR440.out HB.out) | (with_reducible refine Kd.C_alloc ?_ _) | (with_reducible refine Kd.C_drewN ?_ _) | (with_reducible refine Kd.C_drew ?_)))
 (case side2 => exact HC440.out)
 rintro e w17 ⟨rfl, hb⟩
 refine ⟨_, rfl, ?_⟩
 have n0_ := Aside0.mk (below_step sqB hb)
 clear HB
 have HB := n0_
 clear n0_
 (try clear hb)
 (try clear hb2)
 (try clear hk)
 (try clear hi)
 refine hK.out _ _ trivial (fun hHeld => ?_)
 clear hK K
 refine norm_ (a' := ?_) ?_ ?_
 rotate_left
 ·show Act.put _ (some 19) _ = _
  simp only [Act.put, List.setIfInBounds_toArray, List.set_cons_zero, List.set_cons_succ, i64_w, i32_w]
  rfl
 refine one_ (i := 7) (N := some 23) #[true, true, true, true, true, true, true, true, false, false] rfl rfl (one_of HT_.out (by kernel_rfl)) (by decide) (fun K hK => ?_)
 refine goes_ Tryd.func27 (by kernel_rfl) rfl #[.slice A16 (l0.drop ((ji5) : Int).toNat).length (c0 - (ji5).toNat)] (by rfl) rfl rfl (by (try simp only [List.map_toArray, List.map_cons, List.map_nil]); first | done | (rw [show (l0.drop ((ji5) : Int).toNat).length = (l0.length - (ji5).toNat) from List.length_drop] <;> rfl) | (simp only [hji5]; rfl) | rfl | (simp only [List.length_drop, List.length_take]; rfl)) ?_
 with_reducible refine (ih k (by omega) _ _ (l0.drop ((ji5) : Int).toNat) t443 _ ?side1 ?side2 A11.out).mono ?_
 (case side1 => repeat (first | exact (Kd.C_below HR442.out HB.out) | (with_reducible refine Kd.C_alloc ?_ _) | (with_reducible refine Kd.C_drewN ?_ _) | (with_reducible refine Kd.C_drew ?_)))
 (case side2 => exact HC442.out)
 rintro e w18 ⟨rfl, hb⟩
 refine ⟨_, rfl, ?_⟩
 have n0_ := Aside0.mk (below_step sqB hb)
 clear HB
 have HB := n0_
 clear n0_
 (try clear hb)
 (try clear hb2)
 (try clear hk)
 (try clear hi)
 refine hK.out _ _ trivial (fun hHeld => ?_)
 clear hK K
 refine norm_ (a' := ?_) ?_ ?_
 rotate_left
 ·show Act.put _ (some 23) _ = _
  simp only [Act.put, List.setIfInBounds_toArray, List.set_cons_zero, List.set_cons_succ, i64_w, i32_w]
  rfl
 refine pure_ (i := 8) (N := some 24) (v := ?_) (a' := ?_) #[true, true, true, true, true, true, true, true, true, false] rfl rfl (any_of HT_.out (by kernel_rfl)) (fun _ _ _ h => h) (Or.inl ⟨by rfl, ?_⟩) ?_ ?_
 rotate_left
 ·intro w'
  go_simp
  with_reducible rfl
 rotate_left
 ·simp only [Act.put, List.setIfInBounds_toArray, List.set_cons_zero, List.set_cons_succ, i64_w, i32_w]
  rfl
 refine pure_ (i := 9) (N := some 2) (v := ?_) (a' := ?_) #[true, true, true, true, true, true, true, true, true, true] rfl rfl (any_of HT_.out (by kernel_rfl)) (fun _ _ _ h => h) (Or.inl ⟨by rfl, ?_⟩) ?_ ?_
 rotate_left
 ·intro w'
  go_simp
  with_reducible rfl
 rotate_left
 ·simp only [Act.put, List.setIfInBounds_toArray, List.set_cons_zero, List.set_cons_succ, i64_w, i32_w]
  rfl
 refine done_ (done_of HT_.out (by kernel_rfl)) ?_
 try go_wp2
 go_ret
 exact ⟨by first | rfl | (simp [errW_none, errW_some] <;> rfl) | (simp only [← hji5]; first | rfl | (simp [errW_none, errW_some] <;> rfl)) | (simp [*, errW_none, errW_some] <;> rfl), sqB⟩

end Go.Proofs.YtfmjdoofopamkaaDoor.W
