-- written by wip/pp.py of this session (the kit's print with patches); checked by Lean alone
import Derived.Test.YtfmjdoofopamkaaDoorWx0
import Derived.Test.YtfmjdoofopamkaaDoorWx1
import Derived.Test.YtfmjdoofopamkaaDoorWx9
import Derived.Test.YtfmjdoofopamkaaDoorWx10
namespace Go.Proofs.YtfmjdoofopamkaaDoor.W
open Go.RowKit Go.Proofs.YtfmjdoofopamkaaDoorW.PrintWords Go.Proofs.YtfmjdoofopamkaaDoorW.PrintLast Go.Proofs.YtfmjdoofopamkaaDoorW.PrintMore
attribute [local go_sem] max2_int min2_int max_two min_two max_three min_three max_four min_four   -- for this text's walks alone
set_option linter.unusedVariables false
set_option linter.unusedSimpArgs false

/-! ### endonymlaw2_floats: function 22 -/
def endonymlaw2_floats.l0 : Nat → List Int → Int → List Nat → List Int → Int → Option (List Nat × List Int)
 | 0, _, _, _, _, _ => none
 | k + 1, x0, x1, x6, x7, x8 => if x8 < (x0.length : Int) then (if x8 < x1 then (if 0 ≤ x8 then ((api_Float.f (rd x0 x8)).bind fun t731 => (if x6.length < 17592186044416 then (if x7.length < 17592186044416 then (endonymlaw2_floats.l0 k x0 x1 (x6 ++ [t731]) (x7 ++ [rd x0 x8]) (wrap64 (x8 + 1))) else (none)) else (none))) else (none)) else (some (x6, x7))) else (some (x6, x7))
def endonymlaw2_floats.f (k : Nat) (l0 : List Int) (a1 : Int) : Option (List Nat × List Int) := endonymlaw2_floats.l0 k l0 a1 ([] : List Nat) ([] : List Int) 0
theorem endonymlaw2_floats.mono_l : ∀ k, (∀ y0 y1 y2 y3 y4, LeO (endonymlaw2_floats.l0 k y0 y1 y2 y3 y4) (endonymlaw2_floats.l0 (k + 1) y0 y1 y2 y3 y4))
 | 0 => fun _ _ _ _ _ r h => by simp [endonymlaw2_floats.l0] at h
 | k + 1 => by
  have ih0 := endonymlaw2_floats.mono_l k
  ·
   intro y0 y1 y2 y3 y4
   unfold endonymlaw2_floats.l0
   repeat' first | (with_reducible first | apply ih0 | apply LeO.refl | apply LeO.none | refine LeO.ite ?_ ?_ | refine LeO.bind ?_ (fun _ => ?_)) | apply ih0 | apply LeO.none | refine LeO.ite ?_ ?_ | refine LeO.bind ?_ (fun _ => ?_)
theorem endonymlaw2_floats.mono : ∀ a0 a1 k, LeO (endonymlaw2_floats.f k a0 a1) (endonymlaw2_floats.f (k + 1) a0 a1) := by
 intro a0 a1 k
 have ih0 := endonymlaw2_floats.mono_l k
 unfold endonymlaw2_floats.f
 repeat' first | (with_reducible first | apply ih0 | apply LeO.refl | apply LeO.none | refine LeO.ite ?_ ?_ | refine LeO.bind ?_ (fun _ => ?_)) | apply ih0 | apply LeO.none | refine LeO.ite ?_ ?_ | refine LeO.bind ?_ (fun _ => ?_)
set_option maxHeartbeats 8000000 in
set_option maxRecDepth 100000 in
theorem endonymlaw2_floats.calls (k : Nat) (A0 : Option Addr) (c0 : Nat) (l0 : List Int) (a1 : Int) (r1 : List Nat) (r2 : List Int) (w : World) (hr0 : Kd.C (Kd.int .u64) w A0 l0.length l0) (hc0 : l0.length ≤ c0) (h : endonymlaw2_floats.f k l0 a1 = some (r1, r2)) :
  Calls Tryd.prog 22 #[.slice A0 l0.length c0, .int .i64 a1] w fun e w' => ∃ v0_ v1_ : Value, e = .returned (.tuple #[v0_, v1_]) ∧ Kd.R Kd.flt 23 w' w.heap.size (fun _ => True) v0_ r1 ∧ Kd.R (Kd.int .u64) 22 w' w.heap.size (fun _ => True) v1_ r2 ∧ Below w.heap.size w w' := by
 have HR0 := Aside0.mk hr0
 have HC0 := Aside0.mk hc0
 clear hr0 hc0
 have HB := Aside0.mk (Below.refl w.heap.size w)
 have H : (endonymlaw2_floats.l0 k l0 a1 ([] : List Nat) ([] : List Int) 0) = some (r1, r2) := h
 clear h
 have H' := Aside0.mk H
 clear H
 go_enter Tryd.func22, Tryd.ntmps22
 go_wp2
 go_loopg [6, 7, 8] k (fun kq v6 v7 v8 w' => ∃ (x6_1 : List Nat) (x7_1 : List Int) (x8_1 : Int), v8 = .int .i64 x8_1 ∧ Aside0 (endonymlaw2_floats.l0 kq l0 a1 x6_1 x7_1 x8_1 = some (r1, r2)) ∧ Aside0 (kq ≤ k) ∧ Aside0 (Kd.R Kd.flt 23 w' w.heap.size (fun _ => True) v6 x6_1) ∧ Aside0 (Kd.R (Kd.int .u64) 22 w' w.heap.size (fun _ => True) v7 x7_1) ∧ Aside0 (Below w.heap.size w w'))
 case atStart => exact ⟨(([] : List Nat)), (([] : List Int)), (0), sqE, H', ⟨Nat.le_refl _⟩, ⟨by first | exact Kd.R_nil _ _ _ _ _ | exact Kd.N_nil _ _ _ _ _ | exact Kd.V_nil _ _ _ _ _ | exact Kd.Q_nil _ _ _ _ _ | exact Kd.S_nil _ _ _ _ _⟩, ⟨by first | exact Kd.R_nil _ _ _ _ _ | exact Kd.N_nil _ _ _ _ _ | exact Kd.V_nil _ _ _ _ _ | exact Kd.Q_nil _ _ _ _ _ | exact Kd.S_nil _ _ _ _ _⟩, ⟨sqB⟩⟩
 case round =>
  clear H'
  try clear c2
  try clear p2
  obtain ⟨x6_1, x7_1, x8_1, rfl, HA, HK1, HO_6, HO_7, HB⟩ := hrel
  cases gk with
  | zero => exact absurd HA.out (by simp [endonymlaw2_floats.l0])
  | succ k1 =>
   have H := HA.out
   clear HA
   simp only [endonymlaw2_floats.l0] at H
   by_cases c3 : x8_1 < (l0.length : Int)
   ·
    rw [if_pos c3] at H
    have c3b0 := decide_eq_true c3
    clear c3
    by_cases c4 : x8_1 < a1
    ·
     rw [if_pos c4] at H
     have c4b0 := decide_eq_true c4
     clear c4
     by_cases c5 : 0 ≤ x8_1
     ·
      rw [if_pos c5] at H
      have c5b0 := decide_eq_true c5
      clear c5
      replace H := Option.bind_eq_some_iff.mp H
      obtain ⟨t731, A60, H⟩ := H
      try dsimp only at H
      have A6 := Aside0.mk A60
      clear A60
      by_cases c7 : x6_1.length < 17592186044416
      ·
       rw [if_pos c7] at H
       have LMc7 := Aside0.mk c7
       clear c7
       obtain ⟨y732, hy732⟩ : ∃ y_ : List Nat, y_ = (x6_1 ++ [t731]) := ⟨_, rfl⟩
       replace H : (if x7_1.length < 17592186044416 then (endonymlaw2_floats.l0 k1 l0 a1 y732 (x7_1 ++ [rd l0 x8_1]) (wrap64 (x8_1 + 1))) else (none)) = some (r1, r2) := by first | (rw [hy732]; with_reducible exact H) | (have H2_ := (Option.bind_some _ _).symm.trans H; rw [hy732]; with_reducible exact H2_) | (have H2_ := (Option.bind_some _ _).symm.trans H; with_reducible exact H2_) | with_reducible exact H | (rw [hy732]; exact H) | exact H
       have Ny732 := Aside0.mk hy732
       clear hy732
       by_cases c8 : x7_1.length < 17592186044416
       ·
        rw [if_pos c8] at H
        have LMc8 := Aside0.mk c8
        clear c8
        obtain ⟨y736, hy736⟩ : ∃ y_ : List Int, y_ = (x7_1 ++ [rd l0 x8_1]) := ⟨_, rfl⟩
        replace H : (endonymlaw2_floats.l0 k1 l0 a1 y732 y736 (wrap64 (x8_1 + 1))) = some (r1, r2) := by first | (rw [hy736]; with_reducible exact H) | (have H2_ := (Option.bind_some _ _).symm.trans H; rw [hy736]; with_reducible exact H2_) | (have H2_ := (Option.bind_some _ _).symm.trans H; with_reducible exact H2_) | with_reducible exact H | (rw [hy736]; exact H) | exact H
        have Ny736 := Aside0.mk hy736
        clear hy736
        have H' := Aside0.mk H
        clear H
        have p730 : 0 ≤ (x8_1 : Int) := sqD
        have q730 : x8_1 < (l0.length : Int) := sqD
        obtain ⟨ad730, e730, hx730_0⟩ := Kd.at_int HR0.out x8_1 p730 q730
        cases e730
        replace hx730_0 := (HB.out.cell (World.block_lt_of_cell? w _ hx730_0)).trans hx730_0
        replace p730 := eq_true p730
        replace q730 := eq_true q730
        go_wp2_with (first | ((with_reducible refine gate_callee (f := 11) rfl ?_); refine goesL_ (some 25) rfl rfl Tryd.func11 (by kernel_rfl) rfl #[.int .u64 (rd l0 x8_1)] rfl sqA ?_; (with_reducible refine (api_Float.calls (rd l0 x8_1) t731 _ A6.out).mono ?_); rintro e w' ⟨rfl, ⟨nd, rfl⟩⟩; refine ⟨_, rfl, ?_⟩) | ((with_reducible refine gate_builtin (b := .append) (xs := #[.tmp 20, .tmp 26]) rfl ?_); at_builtin; refine Kd.R_append Kd.flt (w0 := w) w.heap.size rfl (.tmp 20) (.tmp 26) 44 23 (.float .f64 0) 8 rfl Tryd.underlying44 info23 rfl (by decide) (by omega) u6 x6_1 t731 [.float .f64 t731] (fun _ => True) (fun _ => False) rfl rfl ?aP (fun _ hk => hk.elim) ?aF ?aO ?aB ?aS ?aL ?_; (case aP => exact rfl); (case aB => exact sqB); (case aF => exact (fun _ _ => trivial)); (case aO => exact (sqR HO_6.out)); (case aS => exact (below_size sqB)); (case aL => have := LMc7.out; omega); intro v733 w9 ho hb hg hat; rw [← Ny732.out] at ho; have n0_ := Aside0.mk (Kd.R_over' (sqR HO_7.out) (Kd.R_typed (sqR HO_6.out)) (by decide) hg); have n1_ := Aside0.mk (hb); have n2_ := Aside0.mk (ho); clear HO_7; clear HB; clear HO_6; have HO_7 := n0_; have HB := n1_; have HO734 := n2_; clear n0_ n1_ n2_; clear ho hb hg hat; have p735 : 0 ≤ (x8_1 : Int) := sqD; have q735 : x8_1 < (l0.length : Int) := sqD; obtain ⟨ad735, e735, hx735_0⟩ := Kd.at_int HR0.out x8_1 p735 q735; obtain rfl : ad730 = ad735 := (by injection e735); replace hx735_0 := (HB.out.cell (World.block_lt_of_cell? w _ hx735_0)).trans hx735_0; replace p735 := eq_true p735; replace q735 := eq_true q735) | ((with_reducible refine gate_builtin (b := .append) (xs := #[.tmp 28, .tmp 33]) rfl ?_); at_builtin; refine Kd.R_append (Kd.int .u64) (w0 := w) w.heap.size rfl (.tmp 28) (.tmp 33) 42 22 (.int .u64 0) 8 rfl Tryd.underlying42 info22 rfl (by decide) (by omega) u7 x7_1 (rd l0 x8_1) [.int .u64 (rd l0 x8_1)] (fun _ => True) (fun _ => False) rfl rfl ?aP (fun _ hk => hk.elim) ?aF ?aO ?aB ?aS ?aL ?_; (case aP => exact rfl); (case aB => exact sqB); (case aF => exact (fun _ _ => trivial)); (case aO => exact (sqR HO_7.out)); (case aS => exact (below_size sqB)); (case aL => have := LMc8.out; omega); intro v737 w10 ho hb hg hat; rw [← Ny736.out] at ho; have n0_ := Aside0.mk (Kd.R_over' (sqR HO734.out) (Kd.R_typed (sqR HO_7.out)) (by decide) hg); have n1_ := Aside0.mk (hb); have n2_ := Aside0.mk (ho); clear HO734; clear HB; clear HO_7; have HO734 := n0_; have HB := n1_; have HO738 := n2_; clear n0_ n1_ n2_; clear ho hb hg hat))
        go_roundg k1
        case measure => have := HK1.out; omega
        case rel => exact ⟨(y732), (y736), (wrap64 (x8_1 + 1)), sqE, H', ⟨by have := HK1.out; omega⟩, ⟨sqR HO734.out⟩, ⟨sqR HO738.out⟩, ⟨sqB⟩⟩
       ·
        rw [if_neg c8] at H
        exact absurd H (by simp)
      ·
       rw [if_neg c7] at H
       exact absurd H (by simp)
     ·
      rw [if_neg c5] at H
      exact absurd H (by simp)
    ·
     rw [if_neg c4] at H
     have c4b0 := decide_eq_false c4
     clear c4
     simp only [Option.some.injEq, Prod.mk.injEq] at H
     obtain ⟨rfl, rfl⟩ := H
     go_wp2
     go_ret2
     exact ⟨_, _, sqE', sqR HO_6.out, sqR HO_7.out, sqB⟩
   ·
    rw [if_neg c3] at H
    have c3b0 := decide_eq_false c3
    clear c3
    simp only [Option.some.injEq, Prod.mk.injEq] at H
    obtain ⟨rfl, rfl⟩ := H
    go_wp2
    go_ret2
    exact ⟨_, _, sqE', sqR HO_6.out, sqR HO_7.out, sqB⟩

/-! ### endonymlaw2_WeighTurns: function 9 -/
mutual
def endonymlaw2_WeighTurns.j1 : Nat → List Nat → List Nat → Option (Bool)
 | 0, _, _ => none
 | k + 1, x5, x7 => (weigh_Exact.f k x5).bind fun t753 => ((weigh_Exact.f k x7).bind fun t754 => ((weigh_Mean.f k x5).bind fun bt755 => ((weigh_Mean.f k x7).bind fun bt757 => ((endonymlaw2_told.f k).bind fun t759 => (if t759 = true then (if (FloatKind.f64.format.order t753 t753 != some .eq) = true then (if (FloatKind.f64.format.order t754 t754 != some .eq) = true then (if (bt755.2 == bt757.2) = true then ((api_Bits.f bt755.1).bind fun t760 => ((api_Bits.f bt757.1).bind fun t761 => (some (t760 == t761)))) else (some false)) else ((api_Bits.f t753).bind fun t762 => ((api_Bits.f t754).bind fun t763 => (if t762 = t763 then (if (bt755.2 == bt757.2) = true then ((api_Bits.f bt755.1).bind fun t764 => ((api_Bits.f bt757.1).bind fun t765 => (some (t764 == t765)))) else (some false)) else (some false))))) else ((api_Bits.f t753).bind fun t766 => ((api_Bits.f t754).bind fun t767 => (if t766 = t767 then (if (bt755.2 == bt757.2) = true then ((api_Bits.f bt755.1).bind fun t768 => ((api_Bits.f bt757.1).bind fun t769 => (some (t768 == t769)))) else (some false)) else (some false))))) else (some false))))))
def endonymlaw2_WeighTurns.l0 : Nat → List Int → List Nat → List Nat → Int → Option (Bool)
 | 0, _, _, _, _ => none
 | k + 1, x1, x5, x7, x8 => if x8 < (x1.length : Int) then (if x8 < 60 then (if (x7.length : Int) > 1 then (if 0 ≤ x8 then (if (wrap64 ((x7.length : Int) - 1)) = 0 then (none) else (if 0 ≤ (wrap64 ((Int.tmod (Go.bits .and .i64 (rd x1 x8) 1099511627775) (wrap64 ((x7.length : Int) - 1))) + 1)) then (if (wrap64 ((Int.tmod (Go.bits .and .i64 (rd x1 x8) 1099511627775) (wrap64 ((x7.length : Int) - 1))) + 1)) < (x7.length : Int) then (if 0 ≤ (Int.tmod (Go.bits .and .i64 (rd x1 x8) 1099511627775) (wrap64 ((x7.length : Int) - 1))) then (if (Int.tmod (Go.bits .and .i64 (rd x1 x8) 1099511627775) (wrap64 ((x7.length : Int) - 1))) < (x7.length : Int) then (endonymlaw2_WeighTurns.l0 k x1 x5 ((x7.set ((Int.tmod (Go.bits .and .i64 (rd x1 x8) 1099511627775) (wrap64 ((x7.length : Int) - 1))) : Int).toNat (rdOf 0 x7 (wrap64 ((Int.tmod (Go.bits .and .i64 (rd x1 x8) 1099511627775) (wrap64 ((x7.length : Int) - 1))) + 1)))).set ((wrap64 ((Int.tmod (Go.bits .and .i64 (rd x1 x8) 1099511627775) (wrap64 ((x7.length : Int) - 1))) + 1)) : Int).toNat (rdOf 0 x7 (Int.tmod (Go.bits .and .i64 (rd x1 x8) 1099511627775) (wrap64 ((x7.length : Int) - 1))))) (wrap64 (x8 + 1))) else (none)) else (none)) else (none)) else (none))) else (none)) else (endonymlaw2_WeighTurns.j1 k x5 x7)) else (endonymlaw2_WeighTurns.j1 k x5 x7)) else (endonymlaw2_WeighTurns.j1 k x5 x7)
end
def endonymlaw2_WeighTurns.f (k : Nat) (l0 : List Int) (l1 : List Int) : Option (Bool) := (endonymlaw2_floats.f k l0 40).bind fun bt739 => (if ([] : List Nat).length + bt739.1.length < 17592186044416 then (endonymlaw2_WeighTurns.l0 k l1 bt739.1 (([] : List Nat) ++ bt739.1) 0) else (none))
theorem endonymlaw2_WeighTurns.mono_l : ∀ k, (∀ y0 y1, LeO (endonymlaw2_WeighTurns.j1 k y0 y1) (endonymlaw2_WeighTurns.j1 (k + 1) y0 y1)) ∧ (∀ y0 y1 y2 y3, LeO (endonymlaw2_WeighTurns.l0 k y0 y1 y2 y3) (endonymlaw2_WeighTurns.l0 (k + 1) y0 y1 y2 y3))
 | 0 => ⟨fun _ _ r h => by simp [endonymlaw2_WeighTurns.j1] at h, fun _ _ _ _ r h => by simp [endonymlaw2_WeighTurns.l0] at h⟩
 | k + 1 => by
  obtain ⟨ih0, ih1⟩ := endonymlaw2_WeighTurns.mono_l k
  refine ⟨?_, ?_⟩
  ·
   intro y0 y1
   unfold endonymlaw2_WeighTurns.j1
   repeat' first | (with_reducible first | apply ih0 | apply ih1 | apply endonymlaw2_floats.mono | apply endonymlaw2_told.mono | apply weigh_Exact.mono | apply weigh_Mean.mono | apply LeO.refl | apply LeO.none | refine LeO.ite ?_ ?_ | refine LeO.bind ?_ (fun _ => ?_)) | apply ih0 | apply ih1 | apply endonymlaw2_floats.mono | apply endonymlaw2_told.mono | apply weigh_Exact.mono | apply weigh_Mean.mono | apply LeO.none | refine LeO.ite ?_ ?_ | refine LeO.bind ?_ (fun _ => ?_)
  ·
   intro y0 y1 y2 y3
   unfold endonymlaw2_WeighTurns.l0
   repeat' first | (with_reducible first | apply ih0 | apply ih1 | apply endonymlaw2_floats.mono | apply endonymlaw2_told.mono | apply weigh_Exact.mono | apply weigh_Mean.mono | apply LeO.refl | apply LeO.none | refine LeO.ite ?_ ?_ | refine LeO.bind ?_ (fun _ => ?_)) | apply ih0 | apply ih1 | apply endonymlaw2_floats.mono | apply endonymlaw2_told.mono | apply weigh_Exact.mono | apply weigh_Mean.mono | apply LeO.none | refine LeO.ite ?_ ?_ | refine LeO.bind ?_ (fun _ => ?_)
theorem endonymlaw2_WeighTurns.mono : ∀ a0 a1 k, LeO (endonymlaw2_WeighTurns.f k a0 a1) (endonymlaw2_WeighTurns.f (k + 1) a0 a1) := by
 intro a0 a1 k
 obtain ⟨ih0, ih1⟩ := endonymlaw2_WeighTurns.mono_l k
 unfold endonymlaw2_WeighTurns.f
 repeat' first | (with_reducible first | apply ih0 | apply ih1 | apply endonymlaw2_floats.mono | apply endonymlaw2_told.mono | apply weigh_Exact.mono | apply weigh_Mean.mono | apply LeO.refl | apply LeO.none | refine LeO.ite ?_ ?_ | refine LeO.bind ?_ (fun _ => ?_)) | apply ih0 | apply ih1 | apply endonymlaw2_floats.mono | apply endonymlaw2_told.mono | apply weigh_Exact.mono | apply weigh_Mean.mono | apply LeO.none | refine LeO.ite ?_ ?_ | refine LeO.bind ?_ (fun _ => ?_)
def endonymlaw2_WeighTurns.T8 : Bool × List (List Nat × List Nat) := (true, [([], []), ([], []), ([], []), ([], []), ([3], [3]), ([], []), ([], []), ([6], [6]), ([5, 7], [5, 7]), ([8], [8]), ([], []), ([], []), ([10, 11], [10, 11]), ([12], [12]), ([0, 1, 0, 1, 5, 6, 7, 8, 9, 13], [0, 1]), ([14, 9, 0, 1, 5, 6, 7, 8, 9, 13], [9, 14]), ([2, 4, 0, 1, 2, 3, 4, 5, 6, 7, 8, 9, 10, 11, 12, 13, 14, 15], [2, 4]), ([16, 13, 15, 0, 1, 2, 3, 4, 5, 6, 7, 8, 9, 10, 11, 12, 13, 14, 15], [13, 16])])
def endonymlaw2_WeighTurns.B8 : List Nat := [0, 0, 0, 0, 8, 0, 0, 64, 224, 480, 0, 0, 3072, 7168, 16355, 32739, 65535, 131071]
theorem endonymlaw2_WeighTurns.tab8 : rtab .any (opsOf Tryd.f9 8) = endonymlaw2_WeighTurns.T8 := by kernel_rfl
theorem endonymlaw2_WeighTurns.bits8 : waitsOk endonymlaw2_WeighTurns.T8.2 endonymlaw2_WeighTurns.B8 = true := by kernel_rfl
set_option maxHeartbeats 8000000 in
set_option maxRecDepth 100000 in
theorem endonymlaw2_WeighTurns.calls (k : Nat) (A0 : Option Addr) (c0 : Nat) (l0 : List Int) (A1 : Option Addr) (c1 : Nat) (l1 : List Int) (r : Bool) (w : World) (htab : Aside0 (Rm.Tab w)) (hr0 : Kd.C (Kd.int .u64) w A0 l0.length l0) (hc0 : l0.length ≤ c0) (hr1 : Kd.C (Kd.int .i64) w A1 l1.length l1) (hc1 : l1.length ≤ c1) (h : endonymlaw2_WeighTurns.f k l0 l1 = some r) :
  Calls Tryd.prog 9 #[.slice A0 l0.length c0, .slice A1 l1.length c1] w fun e w' => e = .returned (.bool r) ∧ Below w.heap.size w w' := by
 have HR0 := Aside0.mk hr0
 have HC0 := Aside0.mk hc0
 clear hr0 hc0
 have HR1 := Aside0.mk hr1
 have HC1 := Aside0.mk hc1
 clear hr1 hc1
 have HB := Aside0.mk (Below.refl w.heap.size w)
 have H : ((endonymlaw2_floats.f k l0 40).bind fun bt739 => (if ([] : List Nat).length + bt739.1.length < 17592186044416 then (endonymlaw2_WeighTurns.l0 k l1 bt739.1 (([] : List Nat) ++ bt739.1) 0) else (none))) = some r := h
 clear h
 replace H := Option.bind_eq_some_iff.mp H
 obtain ⟨⟨t739, t740⟩, A30, H⟩ := H
 try dsimp only at H
 have A3 := Aside0.mk A30
 clear A30
 by_cases c4 : ([] : List Nat).length + t739.length < 17592186044416
 ·
  rw [if_pos c4] at H
  have LMc4 := Aside0.mk c4
  clear c4
  obtain ⟨y745, hy745⟩ : ∃ y_ : List Nat, y_ = (([] : List Nat) ++ t739) := ⟨_, rfl⟩
  replace H : (endonymlaw2_WeighTurns.l0 k l1 t739 y745 0) = some r := by first | (rw [hy745]; with_reducible exact H) | (have H2_ := (Option.bind_some _ _).symm.trans H; rw [hy745]; with_reducible exact H2_) | (have H2_ := (Option.bind_some _ _).symm.trans H; with_reducible exact H2_) | with_reducible exact H | (rw [hy745]; exact H) | exact H
  have Ny745 := Aside0.mk hy745
  clear hy745
  have HC5 := Aside0.mk H
  clear H
  go_enter Tryd.func9, Tryd.ntmps9
  go_upto_block 0 with (first | ((with_reducible refine gate_callee (f := 22) rfl ?_); refine goesL_ (some 18) rfl rfl Tryd.func22 (by kernel_rfl) rfl #[.slice A0 l0.length c0, .int .i64 40] rfl sqA ?_; (with_reducible refine (endonymlaw2_floats.calls k _ _ l0 40 t739 t740 _ ?side1 ?side2 A3.out).mono ?_); (case side1 => repeat (first | exact HR0.out | (with_reducible refine Kd.C_alloc ?_ _) | (with_reducible refine Kd.C_drewN ?_ _) | (with_reducible refine Kd.C_drew ?_))); (case side2 => exact HC0.out); rintro e w6 ⟨v741, v743, rfl, ho0, ho1, hb⟩; refine ⟨_, rfl, ?_⟩; have n0_ := Aside0.mk (Kd.R_lower ho0 (below_size sqB)); have n1_ := Aside0.mk (Kd.R_lower ho1 (below_size sqB)); have n2_ := Aside0.mk (below_step sqB hb); clear HB; have HO742 := n0_; have HO744 := n1_; have HB := n2_; clear n0_ n1_ n2_; (try clear hb); (try clear hb2); (try clear hk); (try clear hi); (try clear ho0); (try clear ho1); obtain ⟨Ao8, co8, eo8⟩ := Kd.R_slice HO742.out; subst eo8) | ((with_reducible refine gate_builtin (b := .append) (xs := #[.tmp 21, .tmp 22]) rfl ?_); (try (refine gate_guard (by rfl) ?_; dsimp only)); at_builtin; refine Kd.R_append_rows Kd.flt (w0 := w) w.heap.size rfl (.tmp 21) (.tmp 22) 44 23 (.float .f64 0) 8 rfl Tryd.underlying44 info23 rfl (by decide) (by omega) (.slice none 0 0) ([] : List Nat) t739 _ _ _ (fun k_ => some k_ ≠ (.slice Ao8 t739.length co8 : Value).ownBlock) (fun _ => False) rfl rfl ?aO ?aR (fun _ _ h => h) (fun _ h => h.elim) ?aF ?aB ?aS ?aL ?_; (case aR => repeat (first | exact (Kd.R_reads' HO742.out).2.2 | (with_reducible refine Kd.C_alloc ?_ _) | (with_reducible refine Kd.C_drewN ?_ _) | (with_reducible refine Kd.C_drew ?_))); (case aB => exact sqB); (case aF => exact (fun k_ hk => Kd.fresh' (Kd.R_lt (sqR HO742.out)) k_ hk)); (case aO => exact ((Kd.R_nil _ _ _ _ (fun k_ => some k_ ≠ (.slice Ao8 t739.length co8 : Value).ownBlock)))); (case aS => exact (below_size sqB)); (case aL => have := LMc4.out; omega); intro v746 w7 ho hb hg hat; rw [← Ny745.out] at ho; have n0_ := Aside0.mk (Kd.R_after (Kd.R_apart_nil (sqR HO742.out)) hg hat); have n1_ := Aside0.mk (Kd.R_grown (sqR HO744.out) hg (fun _ _ => by simp [Value.ownBlock])); have n2_ := Aside0.mk (hb); have n3_ := Aside0.mk (ho); clear HO742; clear HO744; clear HB; have HO742 := n0_; have HO744 := n1_; have HB := n2_; have HO747 := n3_; clear n0_ n1_ n2_ n3_; clear ho hb hg hat))
  (try simp only [Act.put, List.setIfInBounds_toArray, List.set_cons_zero, List.set_cons_succ])
  go_cut [] (fun wc => ∃ (kq : Nat) (x7_4 : List Nat), Aside0 (endonymlaw2_WeighTurns.j1 kq t739 x7_4 = some r) ∧ Aside0 (kq ≤ k) ∧ Aside0 (Kd.R Kd.flt 23 wc w.heap.size (fun k_ => some k_ ≠ (v746 : Value).ownBlock) (.slice Ao8 t739.length co8) t739) ∧ Aside0 (Kd.R Kd.flt 23 wc w.heap.size (fun k_ => some k_ ≠ ((.slice Ao8 t739.length co8) : Value).ownBlock) v746 x7_4) ∧ Aside0 (Below w.heap.size w wc))
  case first =>
   have H := HC5.out
   clear HC5
   have H' := Aside0.mk H
   clear H
   go_wp2
   go_loopg [8] k (fun kq v8 w' => ∃ (x7_1 : List Nat) (x8_1 : Int), v8 = .int .i64 x8_1 ∧ Aside0 (endonymlaw2_WeighTurns.l0 kq l1 t739 x7_1 x8_1 = some r) ∧ Aside0 (kq ≤ k) ∧ Aside0 (Kd.R Kd.flt 23 w' w.heap.size (fun k_ => some k_ ≠ (v746 : Value).ownBlock) (.slice Ao8 t739.length co8) t739) ∧ Aside0 (Kd.R Kd.flt 23 w' w.heap.size (fun k_ => some k_ ≠ ((.slice Ao8 t739.length co8) : Value).ownBlock) v746 x7_1) ∧ Aside0 (Below w.heap.size w w'))
   case atStart => exact ⟨(y745), (0), sqE, H', ⟨Nat.le_refl _⟩, ⟨by (with_reducible repeat (first | apply Kd.R_alloc | apply Kd.R_drewN | apply Kd.R_drew)); exact Kd.R_mono HO742.out (fun _ hk => hk.2)⟩, ⟨sqR HO747.out⟩, ⟨sqB⟩⟩
   case round =>
    clear H'
    try clear c1
    try clear c2
    try clear p2
    try clear c4
    obtain ⟨x7_1, x8_1, rfl, HA, HK1, HO_5, HO_7, HB⟩ := hrel
    cases gk with
    | zero => exact absurd HA.out (by simp [endonymlaw2_WeighTurns.l0])
    | succ k1 =>
     have H := HA.out
     clear HA
     simp only [endonymlaw2_WeighTurns.l0] at H
     by_cases c9 : x8_1 < (l1.length : Int)
     ·
      rw [if_pos c9] at H
      have c9b0 := decide_eq_true c9
      clear c9
      (first | rw [c9b0] | (simp only [i64_w, i32_w]; rw [c9b0]) | skip)
      by_cases c10 : x8_1 < 60
      ·
       rw [if_pos c10] at H
       have c10b0 := decide_eq_true c10
       clear c10
       by_cases c11 : (x7_1.length : Int) > 1
       ·
        rw [if_pos c11] at H
        have c11b0 := decide_eq_true c11
        have c11b1 : decide (1 < x7_1.length) = true := decide_eq_true (by omega)
        clear c11
        by_cases c12 : 0 ≤ x8_1
        ·
         rw [if_pos c12] at H
         have c12b0 := decide_eq_true c12
         clear c12
         by_cases c13 : (wrap64 ((x7_1.length : Int) - 1)) = 0
         ·
          rw [if_pos c13] at H
          exact absurd H (by simp)
         ·
          rw [if_neg c13] at H
          have c13b0 := beq_eq_false_iff_ne.mpr c13
          have c13b1 := bne_iff_ne.mpr c13
          obtain ⟨ji14, hji14⟩ : ∃ j_ : Int, (wrap64 ((Int.tmod (Go.bits .and .i64 (rd l1 x8_1) 1099511627775) (wrap64 ((x7_1.length : Int) - 1))) + 1)) = j_ := ⟨_, rfl⟩
          replace H : (if 0 ≤ (ji14) then (if (ji14) < (x7_1.length : Int) then (if 0 ≤ (Int.tmod (Go.bits .and .i64 (rd l1 x8_1) 1099511627775) (wrap64 ((x7_1.length : Int) - 1))) then (if (Int.tmod (Go.bits .and .i64 (rd l1 x8_1) 1099511627775) (wrap64 ((x7_1.length : Int) - 1))) < (x7_1.length : Int) then (endonymlaw2_WeighTurns.l0 k1 l1 t739 ((x7_1.set ((Int.tmod (Go.bits .and .i64 (rd l1 x8_1) 1099511627775) (wrap64 ((x7_1.length : Int) - 1))) : Int).toNat (rdOf 0 x7_1 (ji14))).set ((ji14) : Int).toNat (rdOf 0 x7_1 (Int.tmod (Go.bits .and .i64 (rd l1 x8_1) 1099511627775) (wrap64 ((x7_1.length : Int) - 1))))) (wrap64 (x8_1 + 1))) else (none)) else (none)) else (none)) else (none)) = some r := by first | (rw [hji14] at H; exact H) | (simp only [hji14] at H ⊢; exact H)
          have hji14w : (IntKind.i64.wrap ((Int.tmod (Go.bits .and .i64 (rd l1 x8_1) 1099511627775) (wrap64 ((x7_1.length : Int) - 1))) + 1)) = ji14 := (i64_w _).trans hji14
          by_cases c15 : 0 ≤ (ji14)
          ·
           rw [if_pos c15] at H
           have c15b0 := decide_eq_true c15
           clear c15
           by_cases c16 : (ji14) < (x7_1.length : Int)
           ·
            rw [if_pos c16] at H
            have c16b0 := decide_eq_true c16
            clear c16
            obtain ⟨ji17, hji17⟩ : ∃ j_ : Int, (Int.tmod (Go.bits .and .i64 (rd l1 x8_1) 1099511627775) (wrap64 ((x7_1.length : Int) - 1))) = j_ := ⟨_, rfl⟩
            (try (have hkk_ : wrap64 (ji17 + 1) = ji14 := by rw [← hji17]; exact hji14))
            replace H : (if 0 ≤ (ji17) then (if (ji17) < (x7_1.length : Int) then (endonymlaw2_WeighTurns.l0 k1 l1 t739 ((x7_1.set ((ji17) : Int).toNat (rdOf 0 x7_1 (ji14))).set ((ji14) : Int).toNat (rdOf 0 x7_1 (ji17))) (wrap64 (x8_1 + 1))) else (none)) else (none)) = some r := by first | (rw [hji17] at H; exact H) | (simp only [hji17] at H ⊢; exact H)
            by_cases c18 : 0 ≤ (ji17)
            ·
             rw [if_pos c18] at H
             have c18b0 := decide_eq_true c18
             clear c18
             by_cases c19 : (ji17) < (x7_1.length : Int)
             ·
              rw [if_pos c19] at H
              have c19b0 := decide_eq_true c19
              clear c19
              obtain ⟨y751, hy751⟩ : ∃ y_ : List Nat, y_ = (x7_1.set ((ji17) : Int).toNat (rdOf 0 x7_1 (ji14))) := ⟨_, rfl⟩
              replace H : (endonymlaw2_WeighTurns.l0 k1 l1 t739 (y751.set ((ji14) : Int).toNat (rdOf 0 x7_1 (ji17))) (wrap64 (x8_1 + 1))) = some r := by first | (rw [hy751]; with_reducible exact H) | (have H2_ := (Option.bind_some _ _).symm.trans H; rw [hy751]; with_reducible exact H2_) | (have H2_ := (Option.bind_some _ _).symm.trans H; with_reducible exact H2_) | with_reducible exact H | (rw [hy751]; exact H) | exact H
              have Ny751 := Aside0.mk hy751
              clear hy751
              obtain ⟨y752, hy752⟩ : ∃ y_ : List Nat, y_ = (y751.set ((ji14) : Int).toNat (rdOf 0 x7_1 (ji17))) := ⟨_, rfl⟩
              replace H : (endonymlaw2_WeighTurns.l0 k1 l1 t739 y752 (wrap64 (x8_1 + 1))) = some r := by first | (rw [hy752]; with_reducible exact H) | (have H2_ := (Option.bind_some _ _).symm.trans H; rw [hy752]; with_reducible exact H2_) | (have H2_ := (Option.bind_some _ _).symm.trans H; with_reducible exact H2_) | with_reducible exact H | (rw [hy752]; exact H) | exact H
              have Ny752 := Aside0.mk hy752
              clear hy752
              have H' := Aside0.mk H
              clear H
              obtain ⟨Ao22, co22, eo22⟩ := Kd.R_slice HO_7.out
              subst eo22
              have p748 : 0 ≤ (x8_1 : Int) := sqD
              have q748 : x8_1 < (l1.length : Int) := sqD
              obtain ⟨ad748, e748, hx748_0⟩ := Kd.at_int HR1.out x8_1 p748 q748
              cases e748
              replace hx748_0 := (HB.out.cell (World.block_lt_of_cell? w _ hx748_0)).trans hx748_0
              replace p748 := eq_true p748
              replace q748 := eq_true q748
              try go_wp2
              have n0_ := Aside0.mk (Kd.R_drew HO_5.out)
              have n1_ := Aside0.mk (Kd.R_drew HO_7.out)
              have n2_ := Aside0.mk (below_drew1 HB.out)
              clear HO_5
              clear HO_7
              clear HB
              have HO_5 := n0_
              have HO_7 := n1_
              have HB := n2_
              clear n0_ n1_ n2_
              have p749 : 0 ≤ ((ji14) : Int) := sqD
              have q749 : (ji14) < (x7_1.length : Int) := sqD
              obtain ⟨ad749, e749, hx749_0⟩ := Kd.at_flt (Kd.R_reads' HO_7.out).2.2 (ji14) p749 q749
              cases e749
              replace p749 := eq_true p749
              replace q749 := eq_true q749
              have p750 : 0 ≤ ((ji17) : Int) := sqD
              have q750 : (ji17) < (x7_1.length : Int) := sqD
              obtain ⟨ad750, e750, hx750_0⟩ := Kd.at_flt (Kd.R_reads' HO_7.out).2.2 (ji17) p750 q750
              obtain rfl : ad749 = ad750 := (by injection e750)
              replace p750 := eq_true p750
              replace q750 := eq_true q750
              have p20 : 0 ≤ ((ji17) : Int) := sqD
              have q20 : ((ji17) : Int) < ((x7_1.length : Int) : Int) := sqD
              obtain ⟨go20, co20, eo20, gb20, gl20, cl20, HG20⟩ := Kd.R_form HO_7.out (by omega)
              (first | cases eo20 | (injection eo20 with ea_ en_ ec_; (first | subst ea_ | (injection ea_ with ea_; subst ea_)); subst ec_; clear en_))
              have GB20 := Aside0.mk gb20
              have GG20 := Aside0.mk HG20
              clear gb20 gl20 HG20
              (first | simp only [add_plain] at hx749_0 | skip)
              (first | simp only [add_plain] at hx750_0 | skip)
              obtain ⟨hx20_0, hf20_0⟩ := Kd.R_celln (0 : Nat) HO_7.out ((ji17) : Int) p20 q20
              replace p20 := eq_true p20
              replace q20 := eq_true q20
              have HP24 := Kd.R_putn HO_7.out ((ji17) : Int) (rdOf 0 x7_1 (ji14))
              rw [← Ny751.out] at HP24
              have HQ24 := Aside0.mk HP24
              clear HP24
              have p21 : 0 ≤ ((ji14) : Int) := sqD
              have q21 : ((ji14) : Int) < ((x7_1.length : Int) : Int) := sqD
              obtain ⟨hx21_0, hf21_0⟩ := Kd.R_celln (0 : Nat) HQ24.out ((ji14) : Int) p21 q21
              replace p21 := eq_true p21
              replace q21 := eq_true q21
              have HP25 := Kd.R_putn HQ24.out ((ji14) : Int) (rdOf 0 x7_1 (ji17))
              rw [← Ny752.out] at HP25
              have HQ25 := Aside0.mk HP25
              clear HP25
              refine start_ (n := 18) (S := fun w' => w'.cell? ⟨go20, ((ji14)).toNat, none⟩ = some (.float .f64 (rdOf 0 x7_1 (ji14))) ∧ w'.cell? ⟨go20, ((ji17)).toNat, none⟩ = some (.float .f64 (rdOf 0 x7_1 (ji17)))) (ds := [15, 17]) #[false, false, false, false, false, false, false, false, false, false, false, false, false, false, false, false, false, false] (by kernel_rfl) rfl rfl ⟨hx749_0, hx750_0⟩ (fun hHeld => ?_); refine with_tabW endonymlaw2_WeighTurns.tab8 endonymlaw2_WeighTurns.bits8 (fun HT_ HW_ => ?_)
              generalize wr.drew = w23 at HO_5 HO_7 HB GG20 HQ24 HQ25 hf20_0 hf21_0 hx20_0 hx21_0 hx749_0 hx750_0 hHeld ⊢
              refine pure_ (i := 0) (N := some 48) (v := ?_) (a' := ?_) #[true, false, false, false, false, false, false, false, false, false, false, false, false, false, false, false, false, false] rfl rfl (any_of HT_.out (by kernel_rfl)) (fun _ _ _ h => h) (Or.inl ⟨by rfl, ?_⟩) ?_ ?_
              rotate_left
              ·
               intro w'
               go_simp
               (try (simp only [hkk_]; go_simp))
               with_reducible rfl
              rotate_left
              ·
               simp only [Act.put, List.setIfInBounds_toArray, List.set_cons_zero, List.set_cons_succ, i64_w, i32_w]
               rfl
              refine pure_ (i := 1) (N := some 49) (v := ?_) (a' := ?_) #[true, true, false, false, false, false, false, false, false, false, false, false, false, false, false, false, false, false] rfl rfl (any_of HT_.out (by kernel_rfl)) (fun _ _ _ h => h) (Or.inl ⟨by rfl, ?_⟩) ?_ ?_
              rotate_left
              ·
               intro w'
               go_simp
               (try (simp only [hkk_]; go_simp))
               with_reducible rfl
              rotate_left
              ·
               simp only [Act.put, List.setIfInBounds_toArray, List.set_cons_zero, List.set_cons_succ, i64_w, i32_w]
               rfl
              refine pure_ (i := 2) (N := some 50) (v := ?_) (a' := ?_) #[true, true, true, false, false, false, false, false, false, false, false, false, false, false, false, false, false, false] rfl rfl (any_of HT_.out (by kernel_rfl)) (fun _ _ _ h => h) (Or.inl ⟨by rfl, ?_⟩) ?_ ?_
              rotate_left
              ·
               intro w'
               go_simp
               (try (simp only [hkk_]; go_simp))
               with_reducible rfl
              rotate_left
              ·
               simp only [Act.put, List.setIfInBounds_toArray, List.set_cons_zero, List.set_cons_succ, i64_w, i32_w]
               rfl
              refine pure_ (i := 3) (N := some 51) (v := ?_) (a' := ?_) #[true, true, true, true, false, false, false, false, false, false, false, false, false, false, false, false, false, false] rfl rfl (any_of HT_.out (by kernel_rfl)) (fun _ _ _ h => h) (Or.inl ⟨by rfl, ?_⟩) ?_ ?_
              rotate_left
              ·
               intro w'
               go_simp
               (try (simp only [hkk_]; go_simp))
               with_reducible rfl
              rotate_left
              ·
               simp only [Act.put, List.setIfInBounds_toArray, List.set_cons_zero, List.set_cons_succ, i64_w, i32_w]
               rfl
              refine pure_ (i := 4) (N := some 52) (v := ?_) (a' := ?_) #[true, true, true, true, true, false, false, false, false, false, false, false, false, false, false, false, false, false] rfl rfl (any_of HT_.out (by kernel_rfl)) (fun _ _ _ h => h) (Or.inl ⟨by rfl, ?_⟩) ?_ ?_
              rotate_left
              ·
               intro w'
               go_simp
               (try (simp only [hkk_]; go_simp))
               with_reducible rfl
              rotate_left
              ·
               simp only [Act.put, List.setIfInBounds_toArray, List.set_cons_zero, List.set_cons_succ, i64_w, i32_w]
               rfl
              refine pure_ (i := 5) (N := some 53) (v := ?_) (a' := ?_) #[true, true, true, true, true, true, false, false, false, false, false, false, false, false, false, false, false, false] rfl rfl (any_of HT_.out (by kernel_rfl)) (fun _ _ _ h => h) (Or.inl ⟨by rfl, ?_⟩) ?_ ?_
              rotate_left
              ·
               intro w'
               go_simp
               (try (simp only [hkk_]; go_simp))
               with_reducible rfl
              rotate_left
              ·
               simp only [Act.put, List.setIfInBounds_toArray, List.set_cons_zero, List.set_cons_succ, i64_w, i32_w]
               rfl
              refine pure_ (i := 6) (N := some 54) (v := ?_) (a' := ?_) #[true, true, true, true, true, true, true, false, false, false, false, false, false, false, false, false, false, false] rfl rfl (any_of HT_.out (by kernel_rfl)) (fun _ _ _ h => h) (Or.inl ⟨by rfl, ?_⟩) ?_ ?_
              rotate_left
              ·
               intro w'
               go_simp
               (try (simp only [hkk_]; go_simp))
               with_reducible rfl
              rotate_left
              ·
               simp only [Act.put, List.setIfInBounds_toArray, List.set_cons_zero, List.set_cons_succ, i64_w, i32_w]
               rfl
              refine pure_ (i := 7) (N := some 55) (v := ?_) (a' := ?_) #[true, true, true, true, true, true, true, true, false, false, false, false, false, false, false, false, false, false] rfl rfl (any_of HT_.out (by kernel_rfl)) (fun _ _ _ h => h) (Or.inl ⟨by rfl, ?_⟩) ?_ ?_
              rotate_left
              ·
               intro w'
               go_simp
               (try (simp only [hkk_]; go_simp))
               with_reducible rfl
              rotate_left
              ·
               simp only [Act.put, List.setIfInBounds_toArray, List.set_cons_zero, List.set_cons_succ, i64_w, i32_w]
               rfl
              refine pure_ (i := 8) (N := some 56) (v := ?_) (a' := ?_) #[true, true, true, true, true, true, true, true, true, false, false, false, false, false, false, false, false, false] rfl rfl (any_of HT_.out (by kernel_rfl)) (fun _ _ _ h => h) (Or.inl ⟨by rfl, ?_⟩) ?_ ?_
              rotate_left
              ·
               intro w'
               go_simp
               (try (simp only [hkk_]; go_simp))
               with_reducible rfl
              rotate_left
              ·
               simp only [Act.put, List.setIfInBounds_toArray, List.set_cons_zero, List.set_cons_succ, i64_w, i32_w]
               rfl
              refine pure_ (i := 10) (N := some 58) (v := ?_) (a' := ?_) #[true, true, true, true, true, true, true, true, true, false, true, false, false, false, false, false, false, false] rfl rfl (any_of HT_.out (by kernel_rfl)) (fun _ _ _ h => h) (Or.inl ⟨by rfl, ?_⟩) ?_ ?_
              rotate_left
              ·
               intro w'
               go_simp
               (try (simp only [hkk_]; go_simp))
               with_reducible rfl
              rotate_left
              ·
               simp only [Act.put, List.setIfInBounds_toArray, List.set_cons_zero, List.set_cons_succ, i64_w, i32_w]
               rfl
              refine pure_ (i := 11) (N := some 59) (v := ?_) (a' := ?_) #[true, true, true, true, true, true, true, true, true, false, true, true, false, false, false, false, false, false] rfl rfl (any_of HT_.out (by kernel_rfl)) (fun _ _ _ h => h) (Or.inl ⟨by rfl, ?_⟩) ?_ ?_
              rotate_left
              ·
               intro w'
               go_simp
               (try (simp only [hkk_]; go_simp))
               with_reducible rfl
              rotate_left
              ·
               simp only [Act.put, List.setIfInBounds_toArray, List.set_cons_zero, List.set_cons_succ, i64_w, i32_w]
               rfl
              refine pure_ (i := 12) (N := some 60) (v := ?_) (a' := ?_) #[true, true, true, true, true, true, true, true, true, false, true, true, true, false, false, false, false, false] rfl rfl (any_of HT_.out (by kernel_rfl)) (fun _ _ _ h => h) (Or.inl ⟨by rfl, ?_⟩) ?_ ?_
              rotate_left
              ·
               intro w'
               go_simp
               (try (simp only [hkk_]; go_simp))
               with_reducible rfl
              rotate_left
              ·
               simp only [Act.put, List.setIfInBounds_toArray, List.set_cons_zero, List.set_cons_succ, i64_w, i32_w]
               rfl
              refine take_ (i := 9) (N := some 57) (v := ?_) (a' := ?_) #[true, true, true, true, true, true, true, true, true, true, true, true, true, false, false, false, false, false] rfl rfl (take_ofW HT_.out HW_.out (by kernel_rfl)) (fun _ _ _ h => h) (Or.inl ⟨by rfl, ?_⟩) hHeld ?_ ?_
              rotate_left
              ·
               rintro w' ⟨s0, s1⟩
               go_simp
               (try (simp only [hkk_]; go_simp))
               with_reducible rfl
              rotate_left
              ·
               simp only [Act.put, List.setIfInBounds_toArray, List.set_cons_zero, List.set_cons_succ, i64_w, i32_w]
               rfl
              refine take_ (i := 13) (N := some 61) (v := ?_) (a' := ?_) #[true, true, true, true, true, true, true, true, true, true, true, true, true, true, false, false, false, false] rfl rfl (take_ofW HT_.out HW_.out (by kernel_rfl)) (fun _ _ _ h => h) (Or.inl ⟨by rfl, ?_⟩) hHeld ?_ ?_
              rotate_left
              ·
               rintro w' ⟨s0, s1⟩
               go_simp
               (try (simp only [hkk_]; go_simp))
               with_reducible rfl
              rotate_left
              ·
               simp only [Act.put, List.setIfInBounds_toArray, List.set_cons_zero, List.set_cons_succ, i64_w, i32_w]
               rfl
              refine pure_ (i := 14) (N := some 62) (v := ?_) (a' := ?_) #[true, true, true, true, true, true, true, true, true, true, true, true, true, true, true, false, false, false] rfl rfl (any_of HT_.out (by kernel_rfl)) (fun _ _ _ h => h) (Or.inl ⟨by rfl, ?_⟩) ?_ ?_
              rotate_left
              ·
               intro w'
               go_simp
               (try (simp only [hkk_]; go_simp))
               with_reducible rfl
              rotate_left
              ·
               simp only [Act.put, List.setIfInBounds_toArray, List.set_cons_zero, List.set_cons_succ, i64_w, i32_w]
               rfl
              refine last_ (i := 15) (N := none) #[true, true, true, true, true, true, true, true, true, true, true, true, true, true, true, true, false, false] rfl rfl (one_of HT_.out (by kernel_rfl)) (by decide) (fun K hK => ?_)
              refine skip_ (w1 := ?_) (by rfl) rfl ?_ ?_
              rotate_left
              ·
               go_simp
               rfl
              refine hK.out _ _ ?_
              clear hK K
              refine pure_ (i := 16) (N := some 63) (v := ?_) (a' := ?_) #[true, true, true, true, true, true, true, true, true, true, true, true, true, true, true, true, true, false] rfl rfl (any_of HT_.out (by kernel_rfl)) (fun _ _ _ h => h) (Or.inl ⟨by rfl, ?_⟩) ?_ ?_
              rotate_left
              ·
               intro w'
               go_simp
               (try (simp only [hkk_]; go_simp))
               with_reducible rfl
              rotate_left
              ·
               simp only [Act.put, List.setIfInBounds_toArray, List.set_cons_zero, List.set_cons_succ, i64_w, i32_w]
               rfl
              refine last_ (i := 17) (N := none) #[true, true, true, true, true, true, true, true, true, true, true, true, true, true, true, true, true, true] rfl rfl (one_of HT_.out (by kernel_rfl)) (by decide) (fun K hK => ?_)
              refine skip_ (w1 := ?_) (by rfl) rfl ?_ ?_
              rotate_left
              ·
               go_simp
               rfl
              refine hK.out _ _ ?_
              clear hK K
              refine done_ (done_of HT_.out (by kernel_rfl)) ?_
              try go_wp2
              go_roundg k1
              case measure => have := HK1.out; omega
              case rel => exact ⟨(y752), (wrap64 (x8_1 + 1)), sqE, H', ⟨by have := HK1.out; omega⟩, ⟨by (with_reducible repeat (first | apply Kd.R_alloc | apply Kd.R_drewN | apply Kd.R_drew)); exact Kd.R_mono (Kd.R_far (p := ⟨go20, ((ji14) : Int).toNat, none⟩) (Kd.R_far (p := ⟨go20, ((ji17) : Int).toNat, none⟩) (Kd.R_mono HO_5.out (fun k_ hk => (⟨hk, fun e_ => hk (by rw [e_]; rfl)⟩ : _ ∧ k_ ≠ go20))) (fun _ hk => hk.2) (.float .f64 (rdOf 0 x7_1 (ji14)))) (fun _ hk => hk.2) (.float .f64 (rdOf 0 x7_1 (ji17)))) (fun _ hk => hk.1)⟩, ⟨sqR HQ25.out⟩, ⟨by repeat (first | (with_reducible first | exact HB.out | apply below_alloc | apply pw_below_drewN | apply below_drew1 | refine below_set ?_ GB20.out | refine below_set ?_ GB20.out) | exact HB.out)⟩⟩
             ·
              rw [if_neg c19] at H
              exact absurd H (by simp)
            ·
             rw [if_neg c18] at H
             exact absurd H (by simp)
           ·
            rw [if_neg c16] at H
            exact absurd H (by simp)
          ·
           rw [if_neg c15] at H
           exact absurd H (by simp)
        ·
         rw [if_neg c12] at H
         exact absurd H (by simp)
       ·
        rw [if_neg c11] at H
        have c11b0 := decide_eq_false c11
        have c11b1 : decide (1 < x7_1.length) = false := decide_eq_false (by omega)
        clear c11
        have H' := Aside0.mk H
        clear H
        obtain ⟨Ao26, co26, eo26⟩ := Kd.R_slice HO_7.out
        subst eo26
        go_wp2
        go_meet
        case rel => exact ⟨_, (x7_1), H', ⟨by have := HK1.out; first | omega | exact Nat.le_refl _⟩, ⟨sqR HO_5.out⟩, ⟨sqR HO_7.out⟩, ⟨sqB⟩⟩
      ·
       rw [if_neg c10] at H
       have c10b0 := decide_eq_false c10
       clear c10
       have H' := Aside0.mk H
       clear H
       go_wp2
       go_meet
       case rel => exact ⟨_, (x7_1), H', ⟨by have := HK1.out; first | omega | exact Nat.le_refl _⟩, ⟨sqR HO_5.out⟩, ⟨sqR HO_7.out⟩, ⟨sqB⟩⟩
     ·
      rw [if_neg c9] at H
      have c9b0 := decide_eq_false c9
      clear c9
      (first | rw [c9b0] | (simp only [i64_w, i32_w]; rw [c9b0]) | skip)
      have H' := Aside0.mk H
      clear H
      go_wp2
      go_meet
      case rel => exact ⟨_, (x7_1), H', ⟨by have := HK1.out; first | omega | exact Nat.le_refl _⟩, ⟨sqR HO_5.out⟩, ⟨sqR HO_7.out⟩, ⟨sqB⟩⟩
  case rest =>
   clear HC5
   try clear c1
   try clear c2
   try clear p2
   try clear q2
   try clear hx2
   try clear hf2
   try clear c4
   try clear p6
   try clear p7
   try clear q7
   try clear hx7
   try clear c9
   try clear c9b0
   try clear c10
   try clear c10b0
   try clear c11
   try clear c11b0
   try clear c11b1
   try clear c12
   try clear c12b0
   try clear c13
   try clear c13b0
   try clear c13b1
   try clear c15
   try clear c15b0
   try clear c16
   try clear c16b0
   try clear c18
   try clear c18b0
   try clear c19
   try clear c19b0
   try clear p20
   try clear q20
   try clear hx20
   try clear hf20
   try clear p21
   try clear q21
   try clear hx21
   try clear hf21
   try clear c22
   try clear hx20_0
   try clear hx21_0
   try clear hx748_0
   try clear hx749_0
   try clear hx750_0
   try clear p2
   try clear p20
   try clear p21
   try clear p748
   try clear p749
   try clear p750
   try clear q20
   try clear q21
   try clear q748
   try clear q749
   try clear q750
   obtain ⟨kq, x7_4, HA, HJ4, HO_5, HO_7, HB⟩ := hcut
   cases kq with
   | zero => exact absurd HA.out (by simp [endonymlaw2_WeighTurns.j1])
   | succ kj4 =>
    have H := HA.out
    clear HA
    simp only [endonymlaw2_WeighTurns.j1] at H
    replace H := Option.bind_eq_some_iff.mp H
    obtain ⟨t753, A270, H⟩ := H
    try dsimp only at H
    have A27 := Aside0.mk A270
    clear A270
    replace H := Option.bind_eq_some_iff.mp H
    obtain ⟨t754, A280, H⟩ := H
    try dsimp only at H
    have A28 := Aside0.mk A280
    clear A280
    replace H := Option.bind_eq_some_iff.mp H
    obtain ⟨⟨t755, t756⟩, A290, H⟩ := H
    try dsimp only at H
    have A29 := Aside0.mk A290
    clear A290
    replace H := Option.bind_eq_some_iff.mp H
    obtain ⟨⟨t757, t758⟩, A300, H⟩ := H
    try dsimp only at H
    have A30 := Aside0.mk A300
    clear A300
    replace H := Option.bind_eq_some_iff.mp H
    obtain ⟨t759, A310, H⟩ := H
    try dsimp only at H
    have A31 := Aside0.mk A310
    clear A310
    by_cases c32 : t759 = true
    ·
     subst c32
     have H1 : (if (FloatKind.f64.format.order t753 t753 != some .eq) = true then (if (FloatKind.f64.format.order t754 t754 != some .eq) = true then (if (t756 == t758) = true then ((api_Bits.f t755).bind fun t760 => ((api_Bits.f t757).bind fun t761 => (some (t760 == t761)))) else (some false)) else ((api_Bits.f t753).bind fun t762 => ((api_Bits.f t754).bind fun t763 => (if t762 = t763 then (if (t756 == t758) = true then ((api_Bits.f t755).bind fun t764 => ((api_Bits.f t757).bind fun t765 => (some (t764 == t765)))) else (some false)) else (some false))))) else ((api_Bits.f t753).bind fun t766 => ((api_Bits.f t754).bind fun t767 => (if t766 = t767 then (if (t756 == t758) = true then ((api_Bits.f t755).bind fun t768 => ((api_Bits.f t757).bind fun t769 => (some (t768 == t769)))) else (some false)) else (some false))))) = some r := by rw [if_pos rfl] at H; exact H
     clear H
     have H := H1
     clear H1
     by_cases c33 : (FloatKind.f64.format.order t753 t753 != some .eq) = true
     ·
      rw [if_pos c33] at H
      have c33b0 : (FloatKind.f64.format.order t753 t753 != some .eq) = true := c33
      (try (have c33b1 : decide (FloatKind.f64.format.order t753 t753 = some .eq) = false := by simpa using c33))
      (try (have c33b2 : (FloatKind.f64.format.order t753 t753 == some .eq) = false := by simpa using c33))
      (try (have c33b3 : ¬ (FloatKind.f64.format.order t753 t753 = some .eq) := by simpa using c33))
      clear c33
      by_cases c34 : (FloatKind.f64.format.order t754 t754 != some .eq) = true
      ·
       rw [if_pos c34] at H
       have c34b0 : (FloatKind.f64.format.order t754 t754 != some .eq) = true := c34
       (try (have c34b1 : decide (FloatKind.f64.format.order t754 t754 = some .eq) = false := by simpa using c34))
       (try (have c34b2 : (FloatKind.f64.format.order t754 t754 == some .eq) = false := by simpa using c34))
       (try (have c34b3 : ¬ (FloatKind.f64.format.order t754 t754 = some .eq) := by simpa using c34))
       clear c34
       by_cases c35 : (t756 == t758) = true
       ·
        rw [if_pos c35] at H
        have c35b0 : (t756 == t758) = true := c35
        (try (have c35b1 : decide (t756 = t758) = true := by simpa using c35))
        (try (have c35b2 : (t756 == t758) = true := by simpa using c35))
        clear c35
        replace H := Option.bind_eq_some_iff.mp H
        obtain ⟨t760, A360, H⟩ := H
        try dsimp only at H
        have A36 := Aside0.mk A360
        clear A360
        replace H := Option.bind_eq_some_iff.mp H
        obtain ⟨t761, A370, H⟩ := H
        try dsimp only at H
        have A37 := Aside0.mk A370
        clear A370
        obtain rfl := Option.some.inj H
        go_wp2_with (first | ((with_reducible refine gate_callee (f := 23) rfl ?_); refine goesL_ (some 65) rfl rfl Tryd.func23 (by kernel_rfl) rfl #[.slice Ao8 t739.length co8] rfl sqA ?_; (with_reducible refine (weigh_Exact.calls kj4 _ _ t739 t753 _ ?side1 ?side2 A27.out).mono ?_); (case side1 => repeat (first | exact (Kd.R_reads' HO_5.out).2.2 | (with_reducible refine Kd.C_alloc ?_ _) | (with_reducible refine Kd.C_drewN ?_ _) | (with_reducible refine Kd.C_drew ?_))); (case side2 => exact (Kd.R_reads' HO_5.out).2.1); rintro e w38 ⟨rfl, hb⟩; refine ⟨_, rfl, ?_⟩; have n0_ := Aside0.mk (Kd.R_below (sqR HO_5.out) hb); have n1_ := Aside0.mk (Kd.R_below (sqR HO_7.out) hb); have n2_ := Aside0.mk (below_step sqB hb); clear HO_5; clear HO_7; clear HB; have HO_5 := n0_; have HO_7 := n1_; have HB := n2_; clear n0_ n1_ n2_; (try clear hb); (try clear hb2); (try clear hk); (try clear hi); obtain ⟨Ao39, co39, eo39⟩ := Kd.R_slice HO_7.out; subst eo39) | ((with_reducible refine gate_callee (f := 23) rfl ?_); refine goesL_ (some 67) rfl rfl Tryd.func23 (by kernel_rfl) rfl #[.slice Ao39 x7_4.length co39] rfl sqA ?_; (with_reducible refine (weigh_Exact.calls kj4 _ _ x7_4 t754 _ ?side1 ?side2 A28.out).mono ?_); (case side1 => repeat (first | exact (Kd.R_reads' HO_7.out).2.2 | (with_reducible refine Kd.C_alloc ?_ _) | (with_reducible refine Kd.C_drewN ?_ _) | (with_reducible refine Kd.C_drew ?_))); (case side2 => exact (Kd.R_reads' HO_7.out).2.1); rintro e w40 ⟨rfl, hb⟩; refine ⟨_, rfl, ?_⟩; have n0_ := Aside0.mk (Kd.R_below (sqR HO_5.out) hb); have n1_ := Aside0.mk (Kd.R_below (sqR HO_7.out) hb); have n2_ := Aside0.mk (below_step sqB hb); clear HO_5; clear HO_7; clear HB; have HO_5 := n0_; have HO_7 := n1_; have HB := n2_; clear n0_ n1_ n2_; (try clear hb); (try clear hb2); (try clear hk); (try clear hi)) | ((with_reducible refine gate_callee (f := 24) rfl ?_); refine goesL_ (some 70) rfl rfl Tryd.func24 (by kernel_rfl) rfl #[.slice Ao8 t739.length co8] rfl sqA ?_; (with_reducible refine (weigh_Mean.calls kj4 _ _ t739 t755 t756 _ ?side1 ?side2 A29.out).mono ?_); (case side1 => repeat (first | exact (Kd.R_reads' HO_5.out).2.2 | (with_reducible refine Kd.C_alloc ?_ _) | (with_reducible refine Kd.C_drewN ?_ _) | (with_reducible refine Kd.C_drew ?_))); (case side2 => exact (Kd.R_reads' HO_5.out).2.1); rintro e w41 ⟨rfl, hb⟩; refine ⟨_, rfl, ?_⟩; have n0_ := Aside0.mk (Kd.R_below (sqR HO_5.out) hb); have n1_ := Aside0.mk (Kd.R_below (sqR HO_7.out) hb); have n2_ := Aside0.mk (below_step sqB hb); clear HO_5; clear HO_7; clear HB; have HO_5 := n0_; have HO_7 := n1_; have HB := n2_; clear n0_ n1_ n2_; (try clear hb); (try clear hb2); (try clear hk); (try clear hi)) | ((with_reducible refine gate_callee (f := 24) rfl ?_); refine goesL_ (some 75) rfl rfl Tryd.func24 (by kernel_rfl) rfl #[.slice Ao39 x7_4.length co39] rfl sqA ?_; (with_reducible refine (weigh_Mean.calls kj4 _ _ x7_4 t757 t758 _ ?side1 ?side2 A30.out).mono ?_); (case side1 => repeat (first | exact (Kd.R_reads' HO_7.out).2.2 | (with_reducible refine Kd.C_alloc ?_ _) | (with_reducible refine Kd.C_drewN ?_ _) | (with_reducible refine Kd.C_drew ?_))); (case side2 => exact (Kd.R_reads' HO_7.out).2.1); rintro e w42 ⟨rfl, hb⟩; refine ⟨_, rfl, ?_⟩; have n0_ := Aside0.mk (Kd.R_below (sqR HO_5.out) hb); have n1_ := Aside0.mk (Kd.R_below (sqR HO_7.out) hb); have n2_ := Aside0.mk (below_step sqB hb); clear HO_5; clear HO_7; clear HB; have HO_5 := n0_; have HO_7 := n1_; have HB := n2_; clear n0_ n1_ n2_; (try clear hb); (try clear hb2); (try clear hk); (try clear hi)) | ((with_reducible refine gate_callee (f := 12) rfl ?_); refine goesL_ (some 78) rfl rfl Tryd.func12 (by kernel_rfl) rfl #[] rfl sqA ?_; (with_reducible refine (endonymlaw2_told.calls kj4  true _ ⟨htab.out.below sqB⟩ A31.out).mono ?_); rintro e w43 ⟨rfl, hb⟩; refine ⟨_, rfl, ?_⟩; have n0_ := Aside0.mk (Kd.R_below (sqR HO_5.out) hb); have n1_ := Aside0.mk (Kd.R_below (sqR HO_7.out) hb); have n2_ := Aside0.mk (below_step sqB hb); clear HO_5; clear HO_7; clear HB; have HO_5 := n0_; have HO_7 := n1_; have HB := n2_; clear n0_ n1_ n2_; (try clear hb); (try clear hb2); (try clear hk); (try clear hi)) | (go_at_call 16; (with_reducible refine (api_Bits.calls t755 t760 _ A36.out).mono ?_); rintro e w' ⟨rfl, ⟨nd, rfl⟩⟩) | (go_at_call 16; (with_reducible refine (api_Bits.calls t757 t761 _ A37.out).mono ?_); rintro e w' ⟨rfl, ⟨nd, rfl⟩⟩))
        go_ret
        exact ⟨sqE', sqB⟩
       ·
        rw [if_neg c35] at H
        have c35b0 : (t756 == t758) = false := by simpa using c35
        (try (have c35b1 : decide (t756 = t758) = false := by simpa using c35))
        (try (have c35b2 : (t756 == t758) = false := by simpa using c35))
        (try (have c35b3 : ¬ (t756 = t758) := by simpa using c35))
        clear c35
        obtain rfl := Option.some.inj H
        go_wp2_with (first | ((with_reducible refine gate_callee (f := 23) rfl ?_); refine goesL_ (some 65) rfl rfl Tryd.func23 (by kernel_rfl) rfl #[.slice Ao8 t739.length co8] rfl sqA ?_; (with_reducible refine (weigh_Exact.calls kj4 _ _ t739 t753 _ ?side1 ?side2 A27.out).mono ?_); (case side1 => repeat (first | exact (Kd.R_reads' HO_5.out).2.2 | (with_reducible refine Kd.C_alloc ?_ _) | (with_reducible refine Kd.C_drewN ?_ _) | (with_reducible refine Kd.C_drew ?_))); (case side2 => exact (Kd.R_reads' HO_5.out).2.1); rintro e w44 ⟨rfl, hb⟩; refine ⟨_, rfl, ?_⟩; have n0_ := Aside0.mk (Kd.R_below (sqR HO_5.out) hb); have n1_ := Aside0.mk (Kd.R_below (sqR HO_7.out) hb); have n2_ := Aside0.mk (below_step sqB hb); clear HO_5; clear HO_7; clear HB; have HO_5 := n0_; have HO_7 := n1_; have HB := n2_; clear n0_ n1_ n2_; (try clear hb); (try clear hb2); (try clear hk); (try clear hi); obtain ⟨Ao45, co45, eo45⟩ := Kd.R_slice HO_7.out; subst eo45) | ((with_reducible refine gate_callee (f := 23) rfl ?_); refine goesL_ (some 67) rfl rfl Tryd.func23 (by kernel_rfl) rfl #[.slice Ao45 x7_4.length co45] rfl sqA ?_; (with_reducible refine (weigh_Exact.calls kj4 _ _ x7_4 t754 _ ?side1 ?side2 A28.out).mono ?_); (case side1 => repeat (first | exact (Kd.R_reads' HO_7.out).2.2 | (with_reducible refine Kd.C_alloc ?_ _) | (with_reducible refine Kd.C_drewN ?_ _) | (with_reducible refine Kd.C_drew ?_))); (case side2 => exact (Kd.R_reads' HO_7.out).2.1); rintro e w46 ⟨rfl, hb⟩; refine ⟨_, rfl, ?_⟩; have n0_ := Aside0.mk (Kd.R_below (sqR HO_5.out) hb); have n1_ := Aside0.mk (Kd.R_below (sqR HO_7.out) hb); have n2_ := Aside0.mk (below_step sqB hb); clear HO_5; clear HO_7; clear HB; have HO_5 := n0_; have HO_7 := n1_; have HB := n2_; clear n0_ n1_ n2_; (try clear hb); (try clear hb2); (try clear hk); (try clear hi)) | ((with_reducible refine gate_callee (f := 24) rfl ?_); refine goesL_ (some 70) rfl rfl Tryd.func24 (by kernel_rfl) rfl #[.slice Ao8 t739.length co8] rfl sqA ?_; (with_reducible refine (weigh_Mean.calls kj4 _ _ t739 t755 t756 _ ?side1 ?side2 A29.out).mono ?_); (case side1 => repeat (first | exact (Kd.R_reads' HO_5.out).2.2 | (with_reducible refine Kd.C_alloc ?_ _) | (with_reducible refine Kd.C_drewN ?_ _) | (with_reducible refine Kd.C_drew ?_))); (case side2 => exact (Kd.R_reads' HO_5.out).2.1); rintro e w47 ⟨rfl, hb⟩; refine ⟨_, rfl, ?_⟩; have n0_ := Aside0.mk (Kd.R_below (sqR HO_5.out) hb); have n1_ := Aside0.mk (Kd.R_below (sqR HO_7.out) hb); have n2_ := Aside0.mk (below_step sqB hb); clear HO_5; clear HO_7; clear HB; have HO_5 := n0_; have HO_7 := n1_; have HB := n2_; clear n0_ n1_ n2_; (try clear hb); (try clear hb2); (try clear hk); (try clear hi)) | ((with_reducible refine gate_callee (f := 24) rfl ?_); refine goesL_ (some 75) rfl rfl Tryd.func24 (by kernel_rfl) rfl #[.slice Ao45 x7_4.length co45] rfl sqA ?_; (with_reducible refine (weigh_Mean.calls kj4 _ _ x7_4 t757 t758 _ ?side1 ?side2 A30.out).mono ?_); (case side1 => repeat (first | exact (Kd.R_reads' HO_7.out).2.2 | (with_reducible refine Kd.C_alloc ?_ _) | (with_reducible refine Kd.C_drewN ?_ _) | (with_reducible refine Kd.C_drew ?_))); (case side2 => exact (Kd.R_reads' HO_7.out).2.1); rintro e w48 ⟨rfl, hb⟩; refine ⟨_, rfl, ?_⟩; have n0_ := Aside0.mk (Kd.R_below (sqR HO_5.out) hb); have n1_ := Aside0.mk (Kd.R_below (sqR HO_7.out) hb); have n2_ := Aside0.mk (below_step sqB hb); clear HO_5; clear HO_7; clear HB; have HO_5 := n0_; have HO_7 := n1_; have HB := n2_; clear n0_ n1_ n2_; (try clear hb); (try clear hb2); (try clear hk); (try clear hi)) | ((with_reducible refine gate_callee (f := 12) rfl ?_); refine goesL_ (some 78) rfl rfl Tryd.func12 (by kernel_rfl) rfl #[] rfl sqA ?_; (with_reducible refine (endonymlaw2_told.calls kj4  true _ ⟨htab.out.below sqB⟩ A31.out).mono ?_); rintro e w49 ⟨rfl, hb⟩; refine ⟨_, rfl, ?_⟩; have n0_ := Aside0.mk (Kd.R_below (sqR HO_5.out) hb); have n1_ := Aside0.mk (Kd.R_below (sqR HO_7.out) hb); have n2_ := Aside0.mk (below_step sqB hb); clear HO_5; clear HO_7; clear HB; have HO_5 := n0_; have HO_7 := n1_; have HB := n2_; clear n0_ n1_ n2_; (try clear hb); (try clear hb2); (try clear hk); (try clear hi)))
        go_ret
        exact ⟨sqE', sqB⟩
      ·
       rw [if_neg c34] at H
       have c34b0 : (FloatKind.f64.format.order t754 t754 != some .eq) = false := by simpa using c34
       (try (have c34b1 : decide (FloatKind.f64.format.order t754 t754 = some .eq) = true := by simpa using c34))
       (try (have c34b2 : (FloatKind.f64.format.order t754 t754 == some .eq) = true := by simpa using c34))
       clear c34
       replace H := Option.bind_eq_some_iff.mp H
       obtain ⟨t762, A500, H⟩ := H
       try dsimp only at H
       have A50 := Aside0.mk A500
       clear A500
       replace H := Option.bind_eq_some_iff.mp H
       obtain ⟨t763, A510, H⟩ := H
       try dsimp only at H
       have A51 := Aside0.mk A510
       clear A510
       by_cases c52 : t762 = t763
       ·
        rw [if_pos c52] at H
        have c52b0 := beq_iff_eq.mpr c52
        have c52b1 := bne_eq_false_iff_eq.mpr c52
        clear c52
        by_cases c53 : (t756 == t758) = true
        ·
         rw [if_pos c53] at H
         have c53b0 : (t756 == t758) = true := c53
         (try (have c53b1 : decide (t756 = t758) = true := by simpa using c53))
         (try (have c53b2 : (t756 == t758) = true := by simpa using c53))
         clear c53
         replace H := Option.bind_eq_some_iff.mp H
         obtain ⟨t764, A540, H⟩ := H
         try dsimp only at H
         have A54 := Aside0.mk A540
         clear A540
         replace H := Option.bind_eq_some_iff.mp H
         obtain ⟨t765, A550, H⟩ := H
         try dsimp only at H
         have A55 := Aside0.mk A550
         clear A550
         obtain rfl := Option.some.inj H
         go_wp2_with (first | ((with_reducible refine gate_callee (f := 23) rfl ?_); refine goesL_ (some 65) rfl rfl Tryd.func23 (by kernel_rfl) rfl #[.slice Ao8 t739.length co8] rfl sqA ?_; (with_reducible refine (weigh_Exact.calls kj4 _ _ t739 t753 _ ?side1 ?side2 A27.out).mono ?_); (case side1 => repeat (first | exact (Kd.R_reads' HO_5.out).2.2 | (with_reducible refine Kd.C_alloc ?_ _) | (with_reducible refine Kd.C_drewN ?_ _) | (with_reducible refine Kd.C_drew ?_))); (case side2 => exact (Kd.R_reads' HO_5.out).2.1); rintro e w56 ⟨rfl, hb⟩; refine ⟨_, rfl, ?_⟩; have n0_ := Aside0.mk (Kd.R_below (sqR HO_5.out) hb); have n1_ := Aside0.mk (Kd.R_below (sqR HO_7.out) hb); have n2_ := Aside0.mk (below_step sqB hb); clear HO_5; clear HO_7; clear HB; have HO_5 := n0_; have HO_7 := n1_; have HB := n2_; clear n0_ n1_ n2_; (try clear hb); (try clear hb2); (try clear hk); (try clear hi); obtain ⟨Ao57, co57, eo57⟩ := Kd.R_slice HO_7.out; subst eo57) | ((with_reducible refine gate_callee (f := 23) rfl ?_); refine goesL_ (some 67) rfl rfl Tryd.func23 (by kernel_rfl) rfl #[.slice Ao57 x7_4.length co57] rfl sqA ?_; (with_reducible refine (weigh_Exact.calls kj4 _ _ x7_4 t754 _ ?side1 ?side2 A28.out).mono ?_); (case side1 => repeat (first | exact (Kd.R_reads' HO_7.out).2.2 | (with_reducible refine Kd.C_alloc ?_ _) | (with_reducible refine Kd.C_drewN ?_ _) | (with_reducible refine Kd.C_drew ?_))); (case side2 => exact (Kd.R_reads' HO_7.out).2.1); rintro e w58 ⟨rfl, hb⟩; refine ⟨_, rfl, ?_⟩; have n0_ := Aside0.mk (Kd.R_below (sqR HO_5.out) hb); have n1_ := Aside0.mk (Kd.R_below (sqR HO_7.out) hb); have n2_ := Aside0.mk (below_step sqB hb); clear HO_5; clear HO_7; clear HB; have HO_5 := n0_; have HO_7 := n1_; have HB := n2_; clear n0_ n1_ n2_; (try clear hb); (try clear hb2); (try clear hk); (try clear hi)) | ((with_reducible refine gate_callee (f := 24) rfl ?_); refine goesL_ (some 70) rfl rfl Tryd.func24 (by kernel_rfl) rfl #[.slice Ao8 t739.length co8] rfl sqA ?_; (with_reducible refine (weigh_Mean.calls kj4 _ _ t739 t755 t756 _ ?side1 ?side2 A29.out).mono ?_); (case side1 => repeat (first | exact (Kd.R_reads' HO_5.out).2.2 | (with_reducible refine Kd.C_alloc ?_ _) | (with_reducible refine Kd.C_drewN ?_ _) | (with_reducible refine Kd.C_drew ?_))); (case side2 => exact (Kd.R_reads' HO_5.out).2.1); rintro e w59 ⟨rfl, hb⟩; refine ⟨_, rfl, ?_⟩; have n0_ := Aside0.mk (Kd.R_below (sqR HO_5.out) hb); have n1_ := Aside0.mk (Kd.R_below (sqR HO_7.out) hb); have n2_ := Aside0.mk (below_step sqB hb); clear HO_5; clear HO_7; clear HB; have HO_5 := n0_; have HO_7 := n1_; have HB := n2_; clear n0_ n1_ n2_; (try clear hb); (try clear hb2); (try clear hk); (try clear hi)) | ((with_reducible refine gate_callee (f := 24) rfl ?_); refine goesL_ (some 75) rfl rfl Tryd.func24 (by kernel_rfl) rfl #[.slice Ao57 x7_4.length co57] rfl sqA ?_; (with_reducible refine (weigh_Mean.calls kj4 _ _ x7_4 t757 t758 _ ?side1 ?side2 A30.out).mono ?_); (case side1 => repeat (first | exact (Kd.R_reads' HO_7.out).2.2 | (with_reducible refine Kd.C_alloc ?_ _) | (with_reducible refine Kd.C_drewN ?_ _) | (with_reducible refine Kd.C_drew ?_))); (case side2 => exact (Kd.R_reads' HO_7.out).2.1); rintro e w60 ⟨rfl, hb⟩; refine ⟨_, rfl, ?_⟩; have n0_ := Aside0.mk (Kd.R_below (sqR HO_5.out) hb); have n1_ := Aside0.mk (Kd.R_below (sqR HO_7.out) hb); have n2_ := Aside0.mk (below_step sqB hb); clear HO_5; clear HO_7; clear HB; have HO_5 := n0_; have HO_7 := n1_; have HB := n2_; clear n0_ n1_ n2_; (try clear hb); (try clear hb2); (try clear hk); (try clear hi)) | ((with_reducible refine gate_callee (f := 12) rfl ?_); refine goesL_ (some 78) rfl rfl Tryd.func12 (by kernel_rfl) rfl #[] rfl sqA ?_; (with_reducible refine (endonymlaw2_told.calls kj4  true _ ⟨htab.out.below sqB⟩ A31.out).mono ?_); rintro e w61 ⟨rfl, hb⟩; refine ⟨_, rfl, ?_⟩; have n0_ := Aside0.mk (Kd.R_below (sqR HO_5.out) hb); have n1_ := Aside0.mk (Kd.R_below (sqR HO_7.out) hb); have n2_ := Aside0.mk (below_step sqB hb); clear HO_5; clear HO_7; clear HB; have HO_5 := n0_; have HO_7 := n1_; have HB := n2_; clear n0_ n1_ n2_; (try clear hb); (try clear hb2); (try clear hk); (try clear hi)) | (go_at_call 16; (with_reducible refine (api_Bits.calls t753 t762 _ A50.out).mono ?_); rintro e w' ⟨rfl, ⟨nd, rfl⟩⟩) | (go_at_call 16; (with_reducible refine (api_Bits.calls t754 t763 _ A51.out).mono ?_); rintro e w' ⟨rfl, ⟨nd, rfl⟩⟩) | (go_at_call 16; (with_reducible refine (api_Bits.calls t755 t764 _ A54.out).mono ?_); rintro e w' ⟨rfl, ⟨nd, rfl⟩⟩) | (go_at_call 16; (with_reducible refine (api_Bits.calls t757 t765 _ A55.out).mono ?_); rintro e w' ⟨rfl, ⟨nd, rfl⟩⟩))
         go_ret
         exact ⟨sqE', sqB⟩
        ·
         rw [if_neg c53] at H
         have c53b0 : (t756 == t758) = false := by simpa using c53
         (try (have c53b1 : decide (t756 = t758) = false := by simpa using c53))
         (try (have c53b2 : (t756 == t758) = false := by simpa using c53))
         (try (have c53b3 : ¬ (t756 = t758) := by simpa using c53))
         clear c53
         obtain rfl := Option.some.inj H
         go_wp2_with (first | ((with_reducible refine gate_callee (f := 23) rfl ?_); refine goesL_ (some 65) rfl rfl Tryd.func23 (by kernel_rfl) rfl #[.slice Ao8 t739.length co8] rfl sqA ?_; (with_reducible refine (weigh_Exact.calls kj4 _ _ t739 t753 _ ?side1 ?side2 A27.out).mono ?_); (case side1 => repeat (first | exact (Kd.R_reads' HO_5.out).2.2 | (with_reducible refine Kd.C_alloc ?_ _) | (with_reducible refine Kd.C_drewN ?_ _) | (with_reducible refine Kd.C_drew ?_))); (case side2 => exact (Kd.R_reads' HO_5.out).2.1); rintro e w62 ⟨rfl, hb⟩; refine ⟨_, rfl, ?_⟩; have n0_ := Aside0.mk (Kd.R_below (sqR HO_5.out) hb); have n1_ := Aside0.mk (Kd.R_below (sqR HO_7.out) hb); have n2_ := Aside0.mk (below_step sqB hb); clear HO_5; clear HO_7; clear HB; have HO_5 := n0_; have HO_7 := n1_; have HB := n2_; clear n0_ n1_ n2_; (try clear hb); (try clear hb2); (try clear hk); (try clear hi); obtain ⟨Ao63, co63, eo63⟩ := Kd.R_slice HO_7.out; subst eo63) | ((with_reducible refine gate_callee (f := 23) rfl ?_); refine goesL_ (some 67) rfl rfl Tryd.func23 (by kernel_rfl) rfl #[.slice Ao63 x7_4.length co63] rfl sqA ?_; (with_reducible refine (weigh_Exact.calls kj4 _ _ x7_4 t754 _ ?side1 ?side2 A28.out).mono ?_); (case side1 => repeat (first | exact (Kd.R_reads' HO_7.out).2.2 | (with_reducible refine Kd.C_alloc ?_ _) | (with_reducible refine Kd.C_drewN ?_ _) | (with_reducible refine Kd.C_drew ?_))); (case side2 => exact (Kd.R_reads' HO_7.out).2.1); rintro e w64 ⟨rfl, hb⟩; refine ⟨_, rfl, ?_⟩; have n0_ := Aside0.mk (Kd.R_below (sqR HO_5.out) hb); have n1_ := Aside0.mk (Kd.R_below (sqR HO_7.out) hb); have n2_ := Aside0.mk (below_step sqB hb); clear HO_5; clear HO_7; clear HB; have HO_5 := n0_; have HO_7 := n1_; have HB := n2_; clear n0_ n1_ n2_; (try clear hb); (try clear hb2); (try clear hk); (try clear hi)) | ((with_reducible refine gate_callee (f := 24) rfl ?_); refine goesL_ (some 70) rfl rfl Tryd.func24 (by kernel_rfl) rfl #[.slice Ao8 t739.length co8] rfl sqA ?_; (with_reducible refine (weigh_Mean.calls kj4 _ _ t739 t755 t756 _ ?side1 ?side2 A29.out).mono ?_); (case side1 => repeat (first | exact (Kd.R_reads' HO_5.out).2.2 | (with_reducible refine Kd.C_alloc ?_ _) | (with_reducible refine Kd.C_drewN ?_ _) | (with_reducible refine Kd.C_drew ?_))); (case side2 => exact (Kd.R_reads' HO_5.out).2.1); rintro e w65 ⟨rfl, hb⟩; refine ⟨_, rfl, ?_⟩; have n0_ := Aside0.mk (Kd.R_below (sqR HO_5.out) hb); have n1_ := Aside0.mk (Kd.R_below (sqR HO_7.out) hb); have n2_ := Aside0.mk (below_step sqB hb); clear HO_5; clear HO_7; clear HB; have HO_5 := n0_; have HO_7 := n1_; have HB := n2_; clear n0_ n1_ n2_; (try clear hb); (try clear hb2); (try clear hk); (try clear hi)) | ((with_reducible refine gate_callee (f := 24) rfl ?_); refine goesL_ (some 75) rfl rfl Tryd.func24 (by kernel_rfl) rfl #[.slice Ao63 x7_4.length co63] rfl sqA ?_; (with_reducible refine (weigh_Mean.calls kj4 _ _ x7_4 t757 t758 _ ?side1 ?side2 A30.out).mono ?_); (case side1 => repeat (first | exact (Kd.R_reads' HO_7.out).2.2 | (with_reducible refine Kd.C_alloc ?_ _) | (with_reducible refine Kd.C_drewN ?_ _) | (with_reducible refine Kd.C_drew ?_))); (case side2 => exact (Kd.R_reads' HO_7.out).2.1); rintro e w66 ⟨rfl, hb⟩; refine ⟨_, rfl, ?_⟩; have n0_ := Aside0.mk (Kd.R_below (sqR HO_5.out) hb); have n1_ := Aside0.mk (Kd.R_below (sqR HO_7.out) hb); have n2_ := Aside0.mk (below_step sqB hb); clear HO_5; clear HO_7; clear HB; have HO_5 := n0_; have HO_7 := n1_; have HB := n2_; clear n0_ n1_ n2_; (try clear hb); (try clear hb2); (try clear hk); (try clear hi)) | ((with_reducible refine gate_callee (f := 12) rfl ?_); refine goesL_ (some 78) rfl rfl Tryd.func12 (by kernel_rfl) rfl #[] rfl sqA ?_; (with_reducible refine (endonymlaw2_told.calls kj4  true _ ⟨htab.out.below sqB⟩ A31.out).mono ?_); rintro e w67 ⟨rfl, hb⟩; refine ⟨_, rfl, ?_⟩; have n0_ := Aside0.mk (Kd.R_below (sqR HO_5.out) hb); have n1_ := Aside0.mk (Kd.R_below (sqR HO_7.out) hb); have n2_ := Aside0.mk (below_step sqB hb); clear HO_5; clear HO_7; clear HB; have HO_5 := n0_; have HO_7 := n1_; have HB := n2_; clear n0_ n1_ n2_; (try clear hb); (try clear hb2); (try clear hk); (try clear hi)) | (go_at_call 16; (with_reducible refine (api_Bits.calls t753 t762 _ A50.out).mono ?_); rintro e w' ⟨rfl, ⟨nd, rfl⟩⟩) | (go_at_call 16; (with_reducible refine (api_Bits.calls t754 t763 _ A51.out).mono ?_); rintro e w' ⟨rfl, ⟨nd, rfl⟩⟩))
         go_ret
         exact ⟨sqE', sqB⟩
       ·
        rw [if_neg c52] at H
        have c52b0 := beq_eq_false_iff_ne.mpr c52
        have c52b1 := bne_iff_ne.mpr c52
        obtain rfl := Option.some.inj H
        go_wp2_with (first | ((with_reducible refine gate_callee (f := 23) rfl ?_); refine goesL_ (some 65) rfl rfl Tryd.func23 (by kernel_rfl) rfl #[.slice Ao8 t739.length co8] rfl sqA ?_; (with_reducible refine (weigh_Exact.calls kj4 _ _ t739 t753 _ ?side1 ?side2 A27.out).mono ?_); (case side1 => repeat (first | exact (Kd.R_reads' HO_5.out).2.2 | (with_reducible refine Kd.C_alloc ?_ _) | (with_reducible refine Kd.C_drewN ?_ _) | (with_reducible refine Kd.C_drew ?_))); (case side2 => exact (Kd.R_reads' HO_5.out).2.1); rintro e w68 ⟨rfl, hb⟩; refine ⟨_, rfl, ?_⟩; have n0_ := Aside0.mk (Kd.R_below (sqR HO_5.out) hb); have n1_ := Aside0.mk (Kd.R_below (sqR HO_7.out) hb); have n2_ := Aside0.mk (below_step sqB hb); clear HO_5; clear HO_7; clear HB; have HO_5 := n0_; have HO_7 := n1_; have HB := n2_; clear n0_ n1_ n2_; (try clear hb); (try clear hb2); (try clear hk); (try clear hi); obtain ⟨Ao69, co69, eo69⟩ := Kd.R_slice HO_7.out; subst eo69) | ((with_reducible refine gate_callee (f := 23) rfl ?_); refine goesL_ (some 67) rfl rfl Tryd.func23 (by kernel_rfl) rfl #[.slice Ao69 x7_4.length co69] rfl sqA ?_; (with_reducible refine (weigh_Exact.calls kj4 _ _ x7_4 t754 _ ?side1 ?side2 A28.out).mono ?_); (case side1 => repeat (first | exact (Kd.R_reads' HO_7.out).2.2 | (with_reducible refine Kd.C_alloc ?_ _) | (with_reducible refine Kd.C_drewN ?_ _) | (with_reducible refine Kd.C_drew ?_))); (case side2 => exact (Kd.R_reads' HO_7.out).2.1); rintro e w70 ⟨rfl, hb⟩; refine ⟨_, rfl, ?_⟩; have n0_ := Aside0.mk (Kd.R_below (sqR HO_5.out) hb); have n1_ := Aside0.mk (Kd.R_below (sqR HO_7.out) hb); have n2_ := Aside0.mk (below_step sqB hb); clear HO_5; clear HO_7; clear HB; have HO_5 := n0_; have HO_7 := n1_; have HB := n2_; clear n0_ n1_ n2_; (try clear hb); (try clear hb2); (try clear hk); (try clear hi)) | ((with_reducible refine gate_callee (f := 24) rfl ?_); refine goesL_ (some 70) rfl rfl Tryd.func24 (by kernel_rfl) rfl #[.slice Ao8 t739.length co8] rfl sqA ?_; (with_reducible refine (weigh_Mean.calls kj4 _ _ t739 t755 t756 _ ?side1 ?side2 A29.out).mono ?_); (case side1 => repeat (first | exact (Kd.R_reads' HO_5.out).2.2 | (with_reducible refine Kd.C_alloc ?_ _) | (with_reducible refine Kd.C_drewN ?_ _) | (with_reducible refine Kd.C_drew ?_))); (case side2 => exact (Kd.R_reads' HO_5.out).2.1); rintro e w71 ⟨rfl, hb⟩; refine ⟨_, rfl, ?_⟩; have n0_ := Aside0.mk (Kd.R_below (sqR HO_5.out) hb); have n1_ := Aside0.mk (Kd.R_below (sqR HO_7.out) hb); have n2_ := Aside0.mk (below_step sqB hb); clear HO_5; clear HO_7; clear HB; have HO_5 := n0_; have HO_7 := n1_; have HB := n2_; clear n0_ n1_ n2_; (try clear hb); (try clear hb2); (try clear hk); (try clear hi)) | ((with_reducible refine gate_callee (f := 24) rfl ?_); refine goesL_ (some 75) rfl rfl Tryd.func24 (by kernel_rfl) rfl #[.slice Ao69 x7_4.length co69] rfl sqA ?_; (with_reducible refine (weigh_Mean.calls kj4 _ _ x7_4 t757 t758 _ ?side1 ?side2 A30.out).mono ?_); (case side1 => repeat (first | exact (Kd.R_reads' HO_7.out).2.2 | (with_reducible refine Kd.C_alloc ?_ _) | (with_reducible refine Kd.C_drewN ?_ _) | (with_reducible refine Kd.C_drew ?_))); (case side2 => exact (Kd.R_reads' HO_7.out).2.1); rintro e w72 ⟨rfl, hb⟩; refine ⟨_, rfl, ?_⟩; have n0_ := Aside0.mk (Kd.R_below (sqR HO_5.out) hb); have n1_ := Aside0.mk (Kd.R_below (sqR HO_7.out) hb); have n2_ := Aside0.mk (below_step sqB hb); clear HO_5; clear HO_7; clear HB; have HO_5 := n0_; have HO_7 := n1_; have HB := n2_; clear n0_ n1_ n2_; (try clear hb); (try clear hb2); (try clear hk); (try clear hi)) | ((with_reducible refine gate_callee (f := 12) rfl ?_); refine goesL_ (some 78) rfl rfl Tryd.func12 (by kernel_rfl) rfl #[] rfl sqA ?_; (with_reducible refine (endonymlaw2_told.calls kj4  true _ ⟨htab.out.below sqB⟩ A31.out).mono ?_); rintro e w73 ⟨rfl, hb⟩; refine ⟨_, rfl, ?_⟩; have n0_ := Aside0.mk (Kd.R_below (sqR HO_5.out) hb); have n1_ := Aside0.mk (Kd.R_below (sqR HO_7.out) hb); have n2_ := Aside0.mk (below_step sqB hb); clear HO_5; clear HO_7; clear HB; have HO_5 := n0_; have HO_7 := n1_; have HB := n2_; clear n0_ n1_ n2_; (try clear hb); (try clear hb2); (try clear hk); (try clear hi)) | (go_at_call 16; (with_reducible refine (api_Bits.calls t753 t762 _ A50.out).mono ?_); rintro e w' ⟨rfl, ⟨nd, rfl⟩⟩) | (go_at_call 16; (with_reducible refine (api_Bits.calls t754 t763 _ A51.out).mono ?_); rintro e w' ⟨rfl, ⟨nd, rfl⟩⟩))
        go_ret
        exact ⟨sqE', sqB⟩
     ·
      rw [if_neg c33] at H
      have c33b0 : (FloatKind.f64.format.order t753 t753 != some .eq) = false := by simpa using c33
      (try (have c33b1 : decide (FloatKind.f64.format.order t753 t753 = some .eq) = true := by simpa using c33))
      (try (have c33b2 : (FloatKind.f64.format.order t753 t753 == some .eq) = true := by simpa using c33))
      clear c33
      replace H := Option.bind_eq_some_iff.mp H
      obtain ⟨t766, A740, H⟩ := H
      try dsimp only at H
      have A74 := Aside0.mk A740
      clear A740
      replace H := Option.bind_eq_some_iff.mp H
      obtain ⟨t767, A750, H⟩ := H
      try dsimp only at H
      have A75 := Aside0.mk A750
      clear A750
      by_cases c76 : t766 = t767
      ·
       rw [if_pos c76] at H
       have c76b0 := beq_iff_eq.mpr c76
       have c76b1 := bne_eq_false_iff_eq.mpr c76
       clear c76
       by_cases c77 : (t756 == t758) = true
       ·
        rw [if_pos c77] at H
        have c77b0 : (t756 == t758) = true := c77
        (try (have c77b1 : decide (t756 = t758) = true := by simpa using c77))
        (try (have c77b2 : (t756 == t758) = true := by simpa using c77))
        clear c77
        replace H := Option.bind_eq_some_iff.mp H
        obtain ⟨t768, A780, H⟩ := H
        try dsimp only at H
        have A78 := Aside0.mk A780
        clear A780
        replace H := Option.bind_eq_some_iff.mp H
        obtain ⟨t769, A790, H⟩ := H
        try dsimp only at H
        have A79 := Aside0.mk A790
        clear A790
        obtain rfl := Option.some.inj H
        go_wp2_with (first | ((with_reducible refine gate_callee (f := 23) rfl ?_); refine goesL_ (some 65) rfl rfl Tryd.func23 (by kernel_rfl) rfl #[.slice Ao8 t739.length co8] rfl sqA ?_; (with_reducible refine (weigh_Exact.calls kj4 _ _ t739 t753 _ ?side1 ?side2 A27.out).mono ?_); (case side1 => repeat (first | exact (Kd.R_reads' HO_5.out).2.2 | (with_reducible refine Kd.C_alloc ?_ _) | (with_reducible refine Kd.C_drewN ?_ _) | (with_reducible refine Kd.C_drew ?_))); (case side2 => exact (Kd.R_reads' HO_5.out).2.1); rintro e w80 ⟨rfl, hb⟩; refine ⟨_, rfl, ?_⟩; have n0_ := Aside0.mk (Kd.R_below (sqR HO_5.out) hb); have n1_ := Aside0.mk (Kd.R_below (sqR HO_7.out) hb); have n2_ := Aside0.mk (below_step sqB hb); clear HO_5; clear HO_7; clear HB; have HO_5 := n0_; have HO_7 := n1_; have HB := n2_; clear n0_ n1_ n2_; (try clear hb); (try clear hb2); (try clear hk); (try clear hi); obtain ⟨Ao81, co81, eo81⟩ := Kd.R_slice HO_7.out; subst eo81) | ((with_reducible refine gate_callee (f := 23) rfl ?_); refine goesL_ (some 67) rfl rfl Tryd.func23 (by kernel_rfl) rfl #[.slice Ao81 x7_4.length co81] rfl sqA ?_; (with_reducible refine (weigh_Exact.calls kj4 _ _ x7_4 t754 _ ?side1 ?side2 A28.out).mono ?_); (case side1 => repeat (first | exact (Kd.R_reads' HO_7.out).2.2 | (with_reducible refine Kd.C_alloc ?_ _) | (with_reducible refine Kd.C_drewN ?_ _) | (with_reducible refine Kd.C_drew ?_))); (case side2 => exact (Kd.R_reads' HO_7.out).2.1); rintro e w82 ⟨rfl, hb⟩; refine ⟨_, rfl, ?_⟩; have n0_ := Aside0.mk (Kd.R_below (sqR HO_5.out) hb); have n1_ := Aside0.mk (Kd.R_below (sqR HO_7.out) hb); have n2_ := Aside0.mk (below_step sqB hb); clear HO_5; clear HO_7; clear HB; have HO_5 := n0_; have HO_7 := n1_; have HB := n2_; clear n0_ n1_ n2_; (try clear hb); (try clear hb2); (try clear hk); (try clear hi)) | ((with_reducible refine gate_callee (f := 24) rfl ?_); refine goesL_ (some 70) rfl rfl Tryd.func24 (by kernel_rfl) rfl #[.slice Ao8 t739.length co8] rfl sqA ?_; (with_reducible refine (weigh_Mean.calls kj4 _ _ t739 t755 t756 _ ?side1 ?side2 A29.out).mono ?_); (case side1 => repeat (first | exact (Kd.R_reads' HO_5.out).2.2 | (with_reducible refine Kd.C_alloc ?_ _) | (with_reducible refine Kd.C_drewN ?_ _) | (with_reducible refine Kd.C_drew ?_))); (case side2 => exact (Kd.R_reads' HO_5.out).2.1); rintro e w83 ⟨rfl, hb⟩; refine ⟨_, rfl, ?_⟩; have n0_ := Aside0.mk (Kd.R_below (sqR HO_5.out) hb); have n1_ := Aside0.mk (Kd.R_below (sqR HO_7.out) hb); have n2_ := Aside0.mk (below_step sqB hb); clear HO_5; clear HO_7; clear HB; have HO_5 := n0_; have HO_7 := n1_; have HB := n2_; clear n0_ n1_ n2_; (try clear hb); (try clear hb2); (try clear hk); (try clear hi)) | ((with_reducible refine gate_callee (f := 24) rfl ?_); refine goesL_ (some 75) rfl rfl Tryd.func24 (by kernel_rfl) rfl #[.slice Ao81 x7_4.length co81] rfl sqA ?_; (with_reducible refine (weigh_Mean.calls kj4 _ _ x7_4 t757 t758 _ ?side1 ?side2 A30.out).mono ?_); (case side1 => repeat (first | exact (Kd.R_reads' HO_7.out).2.2 | (with_reducible refine Kd.C_alloc ?_ _) | (with_reducible refine Kd.C_drewN ?_ _) | (with_reducible refine Kd.C_drew ?_))); (case side2 => exact (Kd.R_reads' HO_7.out).2.1); rintro e w84 ⟨rfl, hb⟩; refine ⟨_, rfl, ?_⟩; have n0_ := Aside0.mk (Kd.R_below (sqR HO_5.out) hb); have n1_ := Aside0.mk (Kd.R_below (sqR HO_7.out) hb); have n2_ := Aside0.mk (below_step sqB hb); clear HO_5; clear HO_7; clear HB; have HO_5 := n0_; have HO_7 := n1_; have HB := n2_; clear n0_ n1_ n2_; (try clear hb); (try clear hb2); (try clear hk); (try clear hi)) | ((with_reducible refine gate_callee (f := 12) rfl ?_); refine goesL_ (some 78) rfl rfl Tryd.func12 (by kernel_rfl) rfl #[] rfl sqA ?_; (with_reducible refine (endonymlaw2_told.calls kj4  true _ ⟨htab.out.below sqB⟩ A31.out).mono ?_); rintro e w85 ⟨rfl, hb⟩; refine ⟨_, rfl, ?_⟩; have n0_ := Aside0.mk (Kd.R_below (sqR HO_5.out) hb); have n1_ := Aside0.mk (Kd.R_below (sqR HO_7.out) hb); have n2_ := Aside0.mk (below_step sqB hb); clear HO_5; clear HO_7; clear HB; have HO_5 := n0_; have HO_7 := n1_; have HB := n2_; clear n0_ n1_ n2_; (try clear hb); (try clear hb2); (try clear hk); (try clear hi)) | (go_at_call 16; (with_reducible refine (api_Bits.calls t753 t766 _ A74.out).mono ?_); rintro e w' ⟨rfl, ⟨nd, rfl⟩⟩) | (go_at_call 16; (with_reducible refine (api_Bits.calls t754 t767 _ A75.out).mono ?_); rintro e w' ⟨rfl, ⟨nd, rfl⟩⟩) | (go_at_call 16; (with_reducible refine (api_Bits.calls t755 t768 _ A78.out).mono ?_); rintro e w' ⟨rfl, ⟨nd, rfl⟩⟩) | (go_at_call 16; (with_reducible refine (api_Bits.calls t757 t769 _ A79.out).mono ?_); rintro e w' ⟨rfl, ⟨nd, rfl⟩⟩))
        go_ret
        exact ⟨sqE', sqB⟩
       ·
        rw [if_neg c77] at H
        have c77b0 : (t756 == t758) = false := by simpa using c77
        (try (have c77b1 : decide (t756 = t758) = false := by simpa using c77))
        (try (have c77b2 : (t756 == t758) = false := by simpa using c77))
        (try (have c77b3 : ¬ (t756 = t758) := by simpa using c77))
        clear c77
        obtain rfl := Option.some.inj H
        go_wp2_with (first | ((with_reducible refine gate_callee (f := 23) rfl ?_); refine goesL_ (some 65) rfl rfl Tryd.func23 (by kernel_rfl) rfl #[.slice Ao8 t739.length co8] rfl sqA ?_; (with_reducible refine (weigh_Exact.calls kj4 _ _ t739 t753 _ ?side1 ?side2 A27.out).mono ?_); (case side1 => repeat (first | exact (Kd.R_reads' HO_5.out).2.2 | (with_reducible refine Kd.C_alloc ?_ _) | (with_reducible refine Kd.C_drewN ?_ _) | (with_reducible refine Kd.C_drew ?_))); (case side2 => exact (Kd.R_reads' HO_5.out).2.1); rintro e w86 ⟨rfl, hb⟩; refine ⟨_, rfl, ?_⟩; have n0_ := Aside0.mk (Kd.R_below (sqR HO_5.out) hb); have n1_ := Aside0.mk (Kd.R_below (sqR HO_7.out) hb); have n2_ := Aside0.mk (below_step sqB hb); clear HO_5; clear HO_7; clear HB; have HO_5 := n0_; have HO_7 := n1_; have HB := n2_; clear n0_ n1_ n2_; (try clear hb); (try clear hb2); (try clear hk); (try clear hi); obtain ⟨Ao87, co87, eo87⟩ := Kd.R_slice HO_7.out; subst eo87) | ((with_reducible refine gate_callee (f := 23) rfl ?_); refine goesL_ (some 67) rfl rfl Tryd.func23 (by kernel_rfl) rfl #[.slice Ao87 x7_4.length co87] rfl sqA ?_; (with_reducible refine (weigh_Exact.calls kj4 _ _ x7_4 t754 _ ?side1 ?side2 A28.out).mono ?_); (case side1 => repeat (first | exact (Kd.R_reads' HO_7.out).2.2 | (with_reducible refine Kd.C_alloc ?_ _) | (with_reducible refine Kd.C_drewN ?_ _) | (with_reducible refine Kd.C_drew ?_))); (case side2 => exact (Kd.R_reads' HO_7.out).2.1); rintro e w88 ⟨rfl, hb⟩; refine ⟨_, rfl, ?_⟩; have n0_ := Aside0.mk (Kd.R_below (sqR HO_5.out) hb); have n1_ := Aside0.mk (Kd.R_below (sqR HO_7.out) hb); have n2_ := Aside0.mk (below_step sqB hb); clear HO_5; clear HO_7; clear HB; have HO_5 := n0_; have HO_7 := n1_; have HB := n2_; clear n0_ n1_ n2_; (try clear hb); (try clear hb2); (try clear hk); (try clear hi)) | ((with_reducible refine gate_callee (f := 24) rfl ?_); refine goesL_ (some 70) rfl rfl Tryd.func24 (by kernel_rfl) rfl #[.slice Ao8 t739.length co8] rfl sqA ?_; (with_reducible refine (weigh_Mean.calls kj4 _ _ t739 t755 t756 _ ?side1 ?side2 A29.out).mono ?_); (case side1 => repeat (first | exact (Kd.R_reads' HO_5.out).2.2 | (with_reducible refine Kd.C_alloc ?_ _) | (with_reducible refine Kd.C_drewN ?_ _) | (with_reducible refine Kd.C_drew ?_))); (case side2 => exact (Kd.R_reads' HO_5.out).2.1); rintro e w89 ⟨rfl, hb⟩; refine ⟨_, rfl, ?_⟩; have n0_ := Aside0.mk (Kd.R_below (sqR HO_5.out) hb); have n1_ := Aside0.mk (Kd.R_below (sqR HO_7.out) hb); have n2_ := Aside0.mk (below_step sqB hb); clear HO_5; clear HO_7; clear HB; have HO_5 := n0_; have HO_7 := n1_; have HB := n2_; clear n0_ n1_ n2_; (try clear hb); (try clear hb2); (try clear hk); (try clear hi)) | ((with_reducible refine gate_callee (f := 24) rfl ?_); refine goesL_ (some 75) rfl rfl Tryd.func24 (by kernel_rfl) rfl #[.slice Ao87 x7_4.length co87] rfl sqA ?_; (with_reducible refine (weigh_Mean.calls kj4 _ _ x7_4 t757 t758 _ ?side1 ?side2 A30.out).mono ?_); (case side1 => repeat (first | exact (Kd.R_reads' HO_7.out).2.2 | (with_reducible refine Kd.C_alloc ?_ _) | (with_reducible refine Kd.C_drewN ?_ _) | (with_reducible refine Kd.C_drew ?_))); (case side2 => exact (Kd.R_reads' HO_7.out).2.1); rintro e w90 ⟨rfl, hb⟩; refine ⟨_, rfl, ?_⟩; have n0_ := Aside0.mk (Kd.R_below (sqR HO_5.out) hb); have n1_ := Aside0.mk (Kd.R_below (sqR HO_7.out) hb); have n2_ := Aside0.mk (below_step sqB hb); clear HO_5; clear HO_7; clear HB; have HO_5 := n0_; have HO_7 := n1_; have HB := n2_; clear n0_ n1_ n2_; (try clear hb); (try clear hb2); (try clear hk); (try clear hi)) | ((with_reducible refine gate_callee (f := 12) rfl ?_); refine goesL_ (some 78) rfl rfl Tryd.func12 (by kernel_rfl) rfl #[] rfl sqA ?_; (with_reducible refine (endonymlaw2_told.calls kj4  true _ ⟨htab.out.below sqB⟩ A31.out).mono ?_); rintro e w91 ⟨rfl, hb⟩; refine ⟨_, rfl, ?_⟩; have n0_ := Aside0.mk (Kd.R_below (sqR HO_5.out) hb); have n1_ := Aside0.mk (Kd.R_below (sqR HO_7.out) hb); have n2_ := Aside0.mk (below_step sqB hb); clear HO_5; clear HO_7; clear HB; have HO_5 := n0_; have HO_7 := n1_; have HB := n2_; clear n0_ n1_ n2_; (try clear hb); (try clear hb2); (try clear hk); (try clear hi)) | (go_at_call 16; (with_reducible refine (api_Bits.calls t753 t766 _ A74.out).mono ?_); rintro e w' ⟨rfl, ⟨nd, rfl⟩⟩) | (go_at_call 16; (with_reducible refine (api_Bits.calls t754 t767 _ A75.out).mono ?_); rintro e w' ⟨rfl, ⟨nd, rfl⟩⟩))
        go_ret
        exact ⟨sqE', sqB⟩
      ·
       rw [if_neg c76] at H
       have c76b0 := beq_eq_false_iff_ne.mpr c76
       have c76b1 := bne_iff_ne.mpr c76
       obtain rfl := Option.some.inj H
       go_wp2_with (first | ((with_reducible refine gate_callee (f := 23) rfl ?_); refine goesL_ (some 65) rfl rfl Tryd.func23 (by kernel_rfl) rfl #[.slice Ao8 t739.length co8] rfl sqA ?_; (with_reducible refine (weigh_Exact.calls kj4 _ _ t739 t753 _ ?side1 ?side2 A27.out).mono ?_); (case side1 => repeat (first | exact (Kd.R_reads' HO_5.out).2.2 | (with_reducible refine Kd.C_alloc ?_ _) | (with_reducible refine Kd.C_drewN ?_ _) | (with_reducible refine Kd.C_drew ?_))); (case side2 => exact (Kd.R_reads' HO_5.out).2.1); rintro e w92 ⟨rfl, hb⟩; refine ⟨_, rfl, ?_⟩; have n0_ := Aside0.mk (Kd.R_below (sqR HO_5.out) hb); have n1_ := Aside0.mk (Kd.R_below (sqR HO_7.out) hb); have n2_ := Aside0.mk (below_step sqB hb); clear HO_5; clear HO_7; clear HB; have HO_5 := n0_; have HO_7 := n1_; have HB := n2_; clear n0_ n1_ n2_; (try clear hb); (try clear hb2); (try clear hk); (try clear hi); obtain ⟨Ao93, co93, eo93⟩ := Kd.R_slice HO_7.out; subst eo93) | ((with_reducible refine gate_callee (f := 23) rfl ?_); refine goesL_ (some 67) rfl rfl Tryd.func23 (by kernel_rfl) rfl #[.slice Ao93 x7_4.length co93] rfl sqA ?_; (with_reducible refine (weigh_Exact.calls kj4 _ _ x7_4 t754 _ ?side1 ?side2 A28.out).mono ?_); (case side1 => repeat (first | exact (Kd.R_reads' HO_7.out).2.2 | (with_reducible refine Kd.C_alloc ?_ _) | (with_reducible refine Kd.C_drewN ?_ _) | (with_reducible refine Kd.C_drew ?_))); (case side2 => exact (Kd.R_reads' HO_7.out).2.1); rintro e w94 ⟨rfl, hb⟩; refine ⟨_, rfl, ?_⟩; have n0_ := Aside0.mk (Kd.R_below (sqR HO_5.out) hb); have n1_ := Aside0.mk (Kd.R_below (sqR HO_7.out) hb); have n2_ := Aside0.mk (below_step sqB hb); clear HO_5; clear HO_7; clear HB; have HO_5 := n0_; have HO_7 := n1_; have HB := n2_; clear n0_ n1_ n2_; (try clear hb); (try clear hb2); (try clear hk); (try clear hi)) | ((with_reducible refine gate_callee (f := 24) rfl ?_); refine goesL_ (some 70) rfl rfl Tryd.func24 (by kernel_rfl) rfl #[.slice Ao8 t739.length co8] rfl sqA ?_; (with_reducible refine (weigh_Mean.calls kj4 _ _ t739 t755 t756 _ ?side1 ?side2 A29.out).mono ?_); (case side1 => repeat (first | exact (Kd.R_reads' HO_5.out).2.2 | (with_reducible refine Kd.C_alloc ?_ _) | (with_reducible refine Kd.C_drewN ?_ _) | (with_reducible refine Kd.C_drew ?_))); (case side2 => exact (Kd.R_reads' HO_5.out).2.1); rintro e w95 ⟨rfl, hb⟩; refine ⟨_, rfl, ?_⟩; have n0_ := Aside0.mk (Kd.R_below (sqR HO_5.out) hb); have n1_ := Aside0.mk (Kd.R_below (sqR HO_7.out) hb); have n2_ := Aside0.mk (below_step sqB hb); clear HO_5; clear HO_7; clear HB; have HO_5 := n0_; have HO_7 := n1_; have HB := n2_; clear n0_ n1_ n2_; (try clear hb); (try clear hb2); (try clear hk); (try clear hi)) | ((with_reducible refine gate_callee (f := 24) rfl ?_); refine goesL_ (some 75) rfl rfl Tryd.func24 (by kernel_rfl) rfl #[.slice Ao93 x7_4.length co93] rfl sqA ?_; (with_reducible refine (weigh_Mean.calls kj4 _ _ x7_4 t757 t758 _ ?side1 ?side2 A30.out).mono ?_); (case side1 => repeat (first | exact (Kd.R_reads' HO_7.out).2.2 | (with_reducible refine Kd.C_alloc ?_ _) | (with_reducible refine Kd.C_drewN ?_ _) | (with_reducible refine Kd.C_drew ?_))); (case side2 => exact (Kd.R_reads' HO_7.out).2.1); rintro e w96 ⟨rfl, hb⟩; refine ⟨_, rfl, ?_⟩; have n0_ := Aside0.mk (Kd.R_below (sqR HO_5.out) hb); have n1_ := Aside0.mk (Kd.R_below (sqR HO_7.out) hb); have n2_ := Aside0.mk (below_step sqB hb); clear HO_5; clear HO_7; clear HB; have HO_5 := n0_; have HO_7 := n1_; have HB := n2_; clear n0_ n1_ n2_; (try clear hb); (try clear hb2); (try clear hk); (try clear hi)) | ((with_reducible refine gate_callee (f := 12) rfl ?_); refine goesL_ (some 78) rfl rfl Tryd.func12 (by kernel_rfl) rfl #[] rfl sqA ?_; (with_reducible refine (endonymlaw2_told.calls kj4  true _ ⟨htab.out.below sqB⟩ A31.out).mono ?_); rintro e w97 ⟨rfl, hb⟩; refine ⟨_, rfl, ?_⟩; have n0_ := Aside0.mk (Kd.R_below (sqR HO_5.out) hb); have n1_ := Aside0.mk (Kd.R_below (sqR HO_7.out) hb); have n2_ := Aside0.mk (below_step sqB hb); clear HO_5; clear HO_7; clear HB; have HO_5 := n0_; have HO_7 := n1_; have HB := n2_; clear n0_ n1_ n2_; (try clear hb); (try clear hb2); (try clear hk); (try clear hi)) | (go_at_call 16; (with_reducible refine (api_Bits.calls t753 t766 _ A74.out).mono ?_); rintro e w' ⟨rfl, ⟨nd, rfl⟩⟩) | (go_at_call 16; (with_reducible refine (api_Bits.calls t754 t767 _ A75.out).mono ?_); rintro e w' ⟨rfl, ⟨nd, rfl⟩⟩))
       go_ret
       exact ⟨sqE', sqB⟩
    ·
     replace c32 := Bool.eq_false_iff.mpr c32
     subst c32
     have H1 : (some false) = some r := by rw [if_neg (show ¬ (false = true) by decide)] at H; exact H
     clear H
     have H := H1
     clear H1
     obtain rfl := Option.some.inj H
     go_wp2_with (first | ((with_reducible refine gate_callee (f := 23) rfl ?_); refine goesL_ (some 65) rfl rfl Tryd.func23 (by kernel_rfl) rfl #[.slice Ao8 t739.length co8] rfl sqA ?_; (with_reducible refine (weigh_Exact.calls kj4 _ _ t739 t753 _ ?side1 ?side2 A27.out).mono ?_); (case side1 => repeat (first | exact (Kd.R_reads' HO_5.out).2.2 | (with_reducible refine Kd.C_alloc ?_ _) | (with_reducible refine Kd.C_drewN ?_ _) | (with_reducible refine Kd.C_drew ?_))); (case side2 => exact (Kd.R_reads' HO_5.out).2.1); rintro e w98 ⟨rfl, hb⟩; refine ⟨_, rfl, ?_⟩; have n0_ := Aside0.mk (Kd.R_below (sqR HO_5.out) hb); have n1_ := Aside0.mk (Kd.R_below (sqR HO_7.out) hb); have n2_ := Aside0.mk (below_step sqB hb); clear HO_5; clear HO_7; clear HB; have HO_5 := n0_; have HO_7 := n1_; have HB := n2_; clear n0_ n1_ n2_; (try clear hb); (try clear hb2); (try clear hk); (try clear hi); obtain ⟨Ao99, co99, eo99⟩ := Kd.R_slice HO_7.out; subst eo99) | ((with_reducible refine gate_callee (f := 23) rfl ?_); refine goesL_ (some 67) rfl rfl Tryd.func23 (by kernel_rfl) rfl #[.slice Ao99 x7_4.length co99] rfl sqA ?_; (with_reducible refine (weigh_Exact.calls kj4 _ _ x7_4 t754 _ ?side1 ?side2 A28.out).mono ?_); (case side1 => repeat (first | exact (Kd.R_reads' HO_7.out).2.2 | (with_reducible refine Kd.C_alloc ?_ _) | (with_reducible refine Kd.C_drewN ?_ _) | (with_reducible refine Kd.C_drew ?_))); (case side2 => exact (Kd.R_reads' HO_7.out).2.1); rintro e w100 ⟨rfl, hb⟩; refine ⟨_, rfl, ?_⟩; have n0_ := Aside0.mk (Kd.R_below (sqR HO_5.out) hb); have n1_ := Aside0.mk (Kd.R_below (sqR HO_7.out) hb); have n2_ := Aside0.mk (below_step sqB hb); clear HO_5; clear HO_7; clear HB; have HO_5 := n0_; have HO_7 := n1_; have HB := n2_; clear n0_ n1_ n2_; (try clear hb); (try clear hb2); (try clear hk); (try clear hi)) | ((with_reducible refine gate_callee (f := 24) rfl ?_); refine goesL_ (some 70) rfl rfl Tryd.func24 (by kernel_rfl) rfl #[.slice Ao8 t739.length co8] rfl sqA ?_; (with_reducible refine (weigh_Mean.calls kj4 _ _ t739 t755 t756 _ ?side1 ?side2 A29.out).mono ?_); (case side1 => repeat (first | exact (Kd.R_reads' HO_5.out).2.2 | (with_reducible refine Kd.C_alloc ?_ _) | (with_reducible refine Kd.C_drewN ?_ _) | (with_reducible refine Kd.C_drew ?_))); (case side2 => exact (Kd.R_reads' HO_5.out).2.1); rintro e w101 ⟨rfl, hb⟩; refine ⟨_, rfl, ?_⟩; have n0_ := Aside0.mk (Kd.R_below (sqR HO_5.out) hb); have n1_ := Aside0.mk (Kd.R_below (sqR HO_7.out) hb); have n2_ := Aside0.mk (below_step sqB hb); clear HO_5; clear HO_7; clear HB; have HO_5 := n0_; have HO_7 := n1_; have HB := n2_; clear n0_ n1_ n2_; (try clear hb); (try clear hb2); (try clear hk); (try clear hi)) | ((with_reducible refine gate_callee (f := 24) rfl ?_); refine goesL_ (some 75) rfl rfl Tryd.func24 (by kernel_rfl) rfl #[.slice Ao99 x7_4.length co99] rfl sqA ?_; (with_reducible refine (weigh_Mean.calls kj4 _ _ x7_4 t757 t758 _ ?side1 ?side2 A30.out).mono ?_); (case side1 => repeat (first | exact (Kd.R_reads' HO_7.out).2.2 | (with_reducible refine Kd.C_alloc ?_ _) | (with_reducible refine Kd.C_drewN ?_ _) | (with_reducible refine Kd.C_drew ?_))); (case side2 => exact (Kd.R_reads' HO_7.out).2.1); rintro e w102 ⟨rfl, hb⟩; refine ⟨_, rfl, ?_⟩; have n0_ := Aside0.mk (Kd.R_below (sqR HO_5.out) hb); have n1_ := Aside0.mk (Kd.R_below (sqR HO_7.out) hb); have n2_ := Aside0.mk (below_step sqB hb); clear HO_5; clear HO_7; clear HB; have HO_5 := n0_; have HO_7 := n1_; have HB := n2_; clear n0_ n1_ n2_; (try clear hb); (try clear hb2); (try clear hk); (try clear hi)) | ((with_reducible refine gate_callee (f := 12) rfl ?_); refine goesL_ (some 78) rfl rfl Tryd.func12 (by kernel_rfl) rfl #[] rfl sqA ?_; (with_reducible refine (endonymlaw2_told.calls kj4  false _ ⟨htab.out.below sqB⟩ A31.out).mono ?_); rintro e w103 ⟨rfl, hb⟩; refine ⟨_, rfl, ?_⟩; have n0_ := Aside0.mk (Kd.R_below (sqR HO_5.out) hb); have n1_ := Aside0.mk (Kd.R_below (sqR HO_7.out) hb); have n2_ := Aside0.mk (below_step sqB hb); clear HO_5; clear HO_7; clear HB; have HO_5 := n0_; have HO_7 := n1_; have HB := n2_; clear n0_ n1_ n2_; (try clear hb); (try clear hb2); (try clear hk); (try clear hi)))
     go_ret
     exact ⟨sqE', sqB⟩
 ·
  rw [if_neg c4] at H
  exact absurd H (by simp)

end Go.Proofs.YtfmjdoofopamkaaDoor.W
