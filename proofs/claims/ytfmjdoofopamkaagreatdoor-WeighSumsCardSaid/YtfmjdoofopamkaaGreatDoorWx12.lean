import Derived.Test.YtfmjdoofopamkaaGreatDoorWx0
import Derived.Test.YtfmjdoofopamkaaGreatDoorWx9
namespace Go.Proofs.YtfmjdoofopamkaaGreatDoor.W
open Go.RowKit Go.Proofs.YtfmjdoofopamkaaGreatDoorW.PrintWords Go.Proofs.YtfmjdoofopamkaaGreatDoorW.PrintLast Go.Proofs.YtfmjdoofopamkaaGreatDoorW.PrintMore
set_option maxHeartbeats 8000000
set_option maxRecDepth 100000
attribute [local go_sem] max2_int min2_int max_two min_two max_three min_three max_four min_four
set_option linter.unusedVariables false
set_option linter.unusedSimpArgs false
def endonymlaw2_floats.l0 : Nat → List Int → Int → List Nat → List Int → Int → Option (List Nat × List Int)
 | 0, _, _, _, _, _ => none
 | k + 1, x0, x1, x6, x7, x8 => if x8 < (x0.length : Int) then (if x8 < x1 then (if 0 ≤ x8 then ((api_Float.f (rd x0 x8)).bind fun t468 => (if x6.length < 17592186044416 then (if x7.length < 17592186044416 then (endonymlaw2_floats.l0 k x0 x1 (x6 ++ [t468]) (x7 ++ [rd x0 x8]) (wrap64 (x8 + 1))) else (none)) else (none))) else (none)) else (some (x6, x7))) else (some (x6, x7))
def endonymlaw2_floats.f (k : Nat) (l0 : List Int) (a1 : Int) : Option (List Nat × List Int) := endonymlaw2_floats.l0 k l0 a1 ([] : List Nat) ([] : List Int) 0
theorem endonymlaw2_floats.mono_l : ∀ k, (∀ y0 y1 y2 y3 y4, LeO (endonymlaw2_floats.l0 k y0 y1 y2 y3 y4) (endonymlaw2_floats.l0 (k + 1) y0 y1 y2 y3 y4))
 | 0 => fun _ _ _ _ _ r h => by simp [endonymlaw2_floats.l0] at h
 | k + 1 => by
  have ih0 := endonymlaw2_floats.mono_l k
  intro y0 y1 y2 y3 y4
  unfold endonymlaw2_floats.l0
  repeat' first | (with_reducible first | apply ih0 | apply LeO.refl | apply LeO.none | refine LeO.ite ?_ ?_ | refine LeO.bind ?_ (fun _ => ?_)) | apply LeO.none | refine LeO.ite ?_ ?_ | refine LeO.bind ?_ (fun _ => ?_)
theorem endonymlaw2_floats.mono : ∀ a0 a1 k, LeO (endonymlaw2_floats.f k a0 a1) (endonymlaw2_floats.f (k + 1) a0 a1) := by
 intro a0 a1 k
 have ih0 := endonymlaw2_floats.mono_l k
 unfold endonymlaw2_floats.f
 repeat' first | (with_reducible first | apply ih0 | apply LeO.refl | apply LeO.none | refine LeO.ite ?_ ?_ | refine LeO.bind ?_ (fun _ => ?_)) | apply LeO.none | refine LeO.ite ?_ ?_ | refine LeO.bind ?_ (fun _ => ?_)
theorem endonymlaw2_floats.calls (k : Nat) (A0 : Option Addr) (c0 : Nat) (l0 : List Int) (a1 : Int) (r1 : List Nat) (r2 : List Int) (w : World) (hr0 : Kd.C (Kd.int .u64) w A0 l0.length l0) (hc0 : l0.length ≤ c0) (h : endonymlaw2_floats.f k l0 a1 = some (r1, r2)) :
  Calls Tryz.prog 14 #[.slice A0 l0.length c0, .int .i64 a1] w fun e w' => ∃ v0_ v1_ : Value, e = .returned (.tuple #[v0_, v1_]) ∧ Kd.R Kd.flt 22 w' w.heap.size (fun _ => True) v0_ r1 ∧ Kd.R (Kd.int .u64) 26 w' w.heap.size (fun _ => True) v1_ r2 ∧ Below w.heap.size w w' := by
 have HR0 := Aside0.mk hr0
 have HC0 := Aside0.mk hc0
 clear hr0 hc0
 have HB := Aside0.mk (Below.refl w.heap.size w)
 have H : (endonymlaw2_floats.l0 k l0 a1 ([] : List Nat) ([] : List Int) 0) = some (r1, r2) := h
 clear h
 have H' := Aside0.mk H
 clear H
 go_enter Tryz.func14, Tryz.ntmps14
 go_wp2
 go_loopg [6, 7, 8] k (fun kq v6 v7 v8 w' => ∃ (x6_1 : List Nat) (x7_1 : List Int) (x8_1 : Int), v8 = .int .i64 x8_1 ∧ Aside0 (endonymlaw2_floats.l0 kq l0 a1 x6_1 x7_1 x8_1 = some (r1, r2)) ∧ Aside0 (kq ≤ k) ∧ Aside0 (Kd.R Kd.flt 22 w' w.heap.size (fun _ => True) v6 x6_1) ∧ Aside0 (Kd.R (Kd.int .u64) 26 w' w.heap.size (fun _ => True) v7 x7_1) ∧ Aside0 (Below w.heap.size w w'))
 case atStart => exact ⟨(([] : List Nat)), (([] : List Int)), (0), sqE, H', ⟨Nat.le_refl _⟩, ⟨by first | exact Kd.R_nil _ _ _ _ _ | exact Kd.N_nil _ _ _ _ _ | exact Kd.V_nil _ _ _ _ _ | exact Kd.Q_nil _ _ _ _ _ | exact Kd.S_nil _ _ _ _ _⟩, ⟨by first | exact Kd.R_nil _ _ _ _ _ | exact Kd.N_nil _ _ _ _ _ | exact Kd.V_nil _ _ _ _ _ | exact Kd.Q_nil _ _ _ _ _ | exact Kd.S_nil _ _ _ _ _⟩, ⟨sqB⟩⟩
 case round =>
  clear H'
  try clear c1
  try clear p2
  obtain ⟨x6_1, x7_1, x8_1, rfl, HA, HK1, HO_6, HO_7, HB⟩ := hrel
  cases gk with
  | zero => exact absurd HA.out (by simp [endonymlaw2_floats.l0])
  | succ k1 =>
   have H := HA.out
   clear HA
   simp only [endonymlaw2_floats.l0] at H
   by_cases c3 : x8_1 < (l0.length : Int)
   case neg =>
    rw [if_neg c3] at H
    have c3b0 := decide_eq_false c3
    clear c3
    simp only [Option.some.injEq, Prod.mk.injEq] at H
    obtain ⟨rfl, rfl⟩ := H
    go_wp2
    go_ret2
    exact ⟨_, _, sqE', sqR HO_6.out, sqR HO_7.out, sqB⟩
   rw [if_pos c3] at H
   have c3b0 := decide_eq_true c3
   clear c3
   by_cases c4 : x8_1 < a1
   case neg =>
    rw [if_neg c4] at H
    have c4b0 := decide_eq_false c4
    clear c4
    simp only [Option.some.injEq, Prod.mk.injEq] at H
    obtain ⟨rfl, rfl⟩ := H
    go_wp2
    go_ret2
    exact ⟨_, _, sqE', sqR HO_6.out, sqR HO_7.out, sqB⟩
   rw [if_pos c4] at H
   have c4b0 := decide_eq_true c4
   clear c4
   by_cases c5 : 0 ≤ x8_1
   case neg => rw [if_neg c5] at H; exact absurd H (by simp)
   rw [if_pos c5] at H
   have c5b0 := decide_eq_true c5
   clear c5
   obtain ⟨t468, A6, H⟩ := sqO H
   try dsimp only at H
   by_cases c7 : x6_1.length < 17592186044416
   case neg => rw [if_neg c7] at H; exact absurd H (by simp)
   rw [if_pos c7] at H
   have LMc7 := Aside0.mk c7
   clear c7
   obtain ⟨y469, hy469⟩ : ∃ y_ : List Nat, y_ = (x6_1 ++ [t468]) := ⟨_, rfl⟩
   replace H : (if x7_1.length < 17592186044416 then (endonymlaw2_floats.l0 k1 l0 a1 y469 (x7_1 ++ [rd l0 x8_1]) (wrap64 (x8_1 + 1))) else (none)) = some (r1, r2) := by first | (rw [hy469]; with_reducible exact H) | (have H2_ := (Option.bind_some _ _).symm.trans H; rw [hy469]; with_reducible exact H2_) | (have H2_ := (Option.bind_some _ _).symm.trans H; with_reducible exact H2_) | with_reducible exact H | (rw [hy469]; exact H) | exact H
   have Ny469 := Aside0.mk hy469
   clear hy469
   by_cases c8 : x7_1.length < 17592186044416
   case neg => rw [if_neg c8] at H; exact absurd H (by simp)
   rw [if_pos c8] at H
   have LMc8 := Aside0.mk c8
   clear c8
   obtain ⟨y473, hy473⟩ : ∃ y_ : List Int, y_ = (x7_1 ++ [rd l0 x8_1]) := ⟨_, rfl⟩
   replace H : (endonymlaw2_floats.l0 k1 l0 a1 y469 y473 (wrap64 (x8_1 + 1))) = some (r1, r2) := by first | (rw [hy473]; with_reducible exact H) | (have H2_ := (Option.bind_some _ _).symm.trans H; rw [hy473]; with_reducible exact H2_) | (have H2_ := (Option.bind_some _ _).symm.trans H; with_reducible exact H2_) | with_reducible exact H | (rw [hy473]; exact H) | exact H
   have Ny473 := Aside0.mk hy473
   clear hy473
   have H' := Aside0.mk H
   clear H
   have p467 : 0 ≤ (x8_1 : Int) := sqD
   have q467 : x8_1 < (l0.length : Int) := sqD
   obtain ⟨ad467, e467, hx467_0⟩ := Kd.at_int HR0.out x8_1 p467 q467
   cases e467
   replace hx467_0 := (HB.out.cell (World.block_lt_of_cell? w _ hx467_0)).trans hx467_0
   replace p467 := eq_true p467
   replace q467 := eq_true q467
   go_wp2_with (first | ((with_reducible refine gate_callee (f := 12) rfl ?_); refine goesL_ (some 25) rfl rfl Tryz.func12 (by kernel_rfl) rfl #[.int .u64 (rd l0 x8_1)] rfl sqA ?_; (with_reducible refine (api_Float.calls (rd l0 x8_1) t468 _ A6.out).mono ?_); rintro e w' ⟨rfl, ⟨nd, rfl⟩⟩; refine ⟨_, rfl, ?_⟩) | ((with_reducible refine gate_builtin (b := .append) (xs := #[.tmp 20, .tmp 26]) rfl ?_); at_builtin; refine Kd.R_append Kd.flt (w0 := w) w.heap.size rfl (.tmp 20) (.tmp 26) 37 22 (.float .f64 0) 8 rfl Tryz.underlying37 info22 rfl (by decide) (by omega) u6 x6_1 t468 [.float .f64 t468] (fun _ => True) (fun _ => False) rfl rfl ?aP (fun _ hk => hk.elim) ?aF ?aO ?aB ?aS ?aL ?_; (case aP => exact rfl); (case aB => exact sqB); (case aF => exact (fun _ _ => trivial)); (case aO => exact (sqR HO_6.out)); (case aS => exact (below_size sqB)); (case aL => have := LMc7.out; omega); intro v470 w9 ho hb hg hat; rw [← Ny469.out] at ho; have n0_ := Aside0.mk (Kd.R_over' (sqR HO_7.out) (Kd.R_typed (sqR HO_6.out)) (by decide) hg); have n1_ := Aside0.mk (hb); have n2_ := Aside0.mk (ho); clear HO_7; clear HB; clear HO_6; have HO_7 := n0_; have HB := n1_; have HO471 := n2_; clear n0_ n1_ n2_; clear ho hb hg hat; have p472 : 0 ≤ (x8_1 : Int) := sqD; have q472 : x8_1 < (l0.length : Int) := sqD; obtain ⟨ad472, e472, hx472_0⟩ := Kd.at_int HR0.out x8_1 p472 q472; obtain rfl : ad467 = ad472 := (by injection e472); replace hx472_0 := (HB.out.cell (World.block_lt_of_cell? w _ hx472_0)).trans hx472_0; replace p472 := eq_true p472; replace q472 := eq_true q472) | ((with_reducible refine gate_builtin (b := .append) (xs := #[.tmp 28, .tmp 33]) rfl ?_); at_builtin; refine Kd.R_append (Kd.int .u64) (w0 := w) w.heap.size rfl (.tmp 28) (.tmp 33) 36 26 (.int .u64 0) 8 rfl Tryz.underlying36 info26 rfl (by decide) (by omega) u7 x7_1 (rd l0 x8_1) [.int .u64 (rd l0 x8_1)] (fun _ => True) (fun _ => False) rfl rfl ?aP (fun _ hk => hk.elim) ?aF ?aO ?aB ?aS ?aL ?_; (case aP => exact rfl); (case aB => exact sqB); (case aF => exact (fun _ _ => trivial)); (case aO => exact (sqR HO_7.out)); (case aS => exact (below_size sqB)); (case aL => have := LMc8.out; omega); intro v474 w10 ho hb hg hat; rw [← Ny473.out] at ho; have n0_ := Aside0.mk (Kd.R_over' (sqR HO471.out) (Kd.R_typed (sqR HO_7.out)) (by decide) hg); have n1_ := Aside0.mk (hb); have n2_ := Aside0.mk (ho); clear HO471; clear HB; clear HO_7; have HO471 := n0_; have HB := n1_; have HO475 := n2_; clear n0_ n1_ n2_; clear ho hb hg hat))
   go_roundg k1
   case measure => have := HK1.out; omega
   case rel => exact ⟨(y469), (y473), (wrap64 (x8_1 + 1)), sqE, H', ⟨by have := HK1.out; omega⟩, ⟨sqR HO471.out⟩, ⟨sqR HO475.out⟩, ⟨sqB⟩⟩
end Go.Proofs.YtfmjdoofopamkaaGreatDoor.W
