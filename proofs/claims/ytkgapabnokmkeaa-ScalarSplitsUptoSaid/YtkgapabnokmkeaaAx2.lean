import Derived.Test.YtkgapabnokmkeaaAx0
import Derived.Test.YtkgapabnokmkeaaAx1
namespace Go.Proofs.Ytkgapabnokmkeaa.A
open Go.RowKit Go.Proofs.YtkgapabnokmkeaaW.PrintWords Go.Proofs.YtkgapabnokmkeaaW.PrintLast Go.Proofs.YtkgapabnokmkeaaW.PrintMore
set_option maxHeartbeats 8000000
set_option maxRecDepth 100000
attribute [local go_sem] max2_int min2_int max_two min_two max_three min_three max_four min_four
set_option linter.unusedVariables false
set_option linter.unusedSimpArgs false
def scalar_Encode.l0 : Nat → List Int → List Int → Int → Int → Option (ByteArray × Int × Int)
 | 0, _, _, _, _ => none
 | k + 1, x5, x8, x9, x10 => if x10 < x9 then (if 0 ≤ x10 then (if x10 < (x8.length : Int) then ((scalar_Valid.f (rd x8 x10)).bind fun t147 => (if t147 = true then (if (rd x8 x10) < 128 then (if x5.length < 140737488355328 then (scalar_Encode.l0 k (x5 ++ [(rd x8 x10) % 256]) x8 x9 (wrap64 (x10 + 1))) else (none)) else (if (rd x8 x10) < 2048 then ((some (([(Go.bits .or .i32 192 ((rd x8 x10) / 64)) % 256, (Go.bits .or .i32 128 (Go.bits .and .i32 (rd x8 x10) 63)) % 256] : List Int) : List Int)).bind fun y151 => (if x5.length + y151.length < 140737488355328 then (scalar_Encode.l0 k (x5 ++ y151) x8 x9 (wrap64 (x10 + 1))) else (none))) else (if (rd x8 x10) < 65536 then ((some (([(Go.bits .or .i32 224 ((rd x8 x10) / 4096)) % 256, (Go.bits .or .i32 128 (Go.bits .and .i32 ((rd x8 x10) / 64) 63)) % 256, (Go.bits .or .i32 128 (Go.bits .and .i32 (rd x8 x10) 63)) % 256] : List Int) : List Int)).bind fun y157 => (if x5.length + y157.length < 140737488355328 then (scalar_Encode.l0 k (x5 ++ y157) x8 x9 (wrap64 (x10 + 1))) else (none))) else ((some (([(Go.bits .or .i32 240 ((rd x8 x10) / 262144)) % 256, (Go.bits .or .i32 128 (Go.bits .and .i32 ((rd x8 x10) / 4096) 63)) % 256, (Go.bits .or .i32 128 (Go.bits .and .i32 ((rd x8 x10) / 64) 63)) % 256, (Go.bits .or .i32 128 (Go.bits .and .i32 (rd x8 x10) 63)) % 256] : List Int) : List Int)).bind fun y163 => (if x5.length + y163.length < 140737488355328 then (scalar_Encode.l0 k (x5 ++ y163) x8 x9 (wrap64 (x10 + 1))) else (none)))))) else (some ((⟨#[]⟩ : ByteArray), x10, 31)))) else (none)) else (none)) else (some (strOfNums x5, 0, 0))
def scalar_Encode.f (k : Nat) (l0 : List Int) : Option (ByteArray × Int × Int) := scalar_Encode.l0 k ([] : List Int) l0 (l0.length : Int) 0
theorem scalar_Encode.mono_l : ∀ k, (∀ y0 y1 y2 y3, LeO (scalar_Encode.l0 k y0 y1 y2 y3) (scalar_Encode.l0 (k + 1) y0 y1 y2 y3))
 | 0 => fun _ _ _ _ r h => by simp [scalar_Encode.l0] at h
 | k + 1 => by
  have ih0 := scalar_Encode.mono_l k
  intro y0 y1 y2 y3
  unfold scalar_Encode.l0
  repeat' first | (with_reducible first | apply ih0 | apply LeO.refl | apply LeO.none | refine LeO.ite ?_ ?_ | refine LeO.bind ?_ (fun _ => ?_)) | apply LeO.none | refine LeO.ite ?_ ?_ | refine LeO.bind ?_ (fun _ => ?_)
theorem scalar_Encode.mono : ∀ a0 k, LeO (scalar_Encode.f k a0) (scalar_Encode.f (k + 1) a0) := by
 intro a0 k
 have ih0 := scalar_Encode.mono_l k
 unfold scalar_Encode.f
 repeat' first | (with_reducible first | apply ih0 | apply LeO.refl | apply LeO.none | refine LeO.ite ?_ ?_ | refine LeO.bind ?_ (fun _ => ?_)) | apply LeO.none | refine LeO.ite ?_ ?_ | refine LeO.bind ?_ (fun _ => ?_)
theorem scalar_Encode.calls (k : Nat) (A0 : Option Addr) (c0 : Nat) (l0 : List Int) (r1 : ByteArray) (r2 : Int) (r3 : Int) (w : World) (hr0 : Kd.C (Kd.int .i32) w A0 l0.length l0) (hc0 : l0.length ≤ c0) (h : scalar_Encode.f k l0 = some (r1, r2, r3)) :
  Calls Try.prog 11 #[.slice A0 l0.length c0] w fun e w' => e = .returned (.tuple #[.string r1, .int .i64 r2, .int .i64 r3]) ∧ Below w.heap.size w w' := by
 have HR0 := Aside0.mk hr0
 have HC0 := Aside0.mk hc0
 clear hr0 hc0
 have HB := Aside0.mk (Below.refl w.heap.size w)
 have H : (scalar_Encode.l0 k ([] : List Int) l0 (l0.length : Int) 0) = some (r1, r2, r3) := h
 clear h
 have H' := Aside0.mk H
 clear H
 go_enter Try.func11, Try.ntmps11
 go_wp2
 go_loopg [5, 10] k (fun kq v5 v10 w' => ∃ (x5_1 : List Int) (x10_1 : Int), v10 = .int .i64 x10_1 ∧ Aside0 (scalar_Encode.l0 kq x5_1 l0 (l0.length : Int) x10_1 = some (r1, r2, r3)) ∧ Aside0 (kq ≤ k) ∧ Aside0 (Kd.R (Kd.int .u8) 5 w' w.heap.size (fun _ => True) v5 x5_1) ∧ Aside0 (Below w.heap.size w w'))
 case atStart => exact ⟨(([] : List Int)), (0), sqE, H', ⟨Nat.le_refl _⟩, ⟨by first | exact Kd.R_nil _ _ _ _ _ | exact Kd.N_nil _ _ _ _ _ | exact Kd.V_nil _ _ _ _ _ | exact Kd.Q_nil _ _ _ _ _ | exact Kd.S_nil _ _ _ _ _⟩, ⟨sqB⟩⟩
 case round =>
  clear H'
  try clear c1
  obtain ⟨x5_1, x10_1, rfl, HA, HK1, HO_5, HB⟩ := hrel
  cases gk with
  | zero => exact absurd HA.out (by simp [scalar_Encode.l0])
  | succ k1 =>
   have H := HA.out
   clear HA
   simp only [scalar_Encode.l0] at H
   by_cases c2 : x10_1 < (l0.length : Int)
   case neg =>
    rw [if_neg c2] at H
    have c2b0 := decide_eq_false c2
    clear c2
    simp only [Option.some.injEq, Prod.mk.injEq] at H
    obtain ⟨rfl, rfl, rfl⟩ := H
    have hcv27 := own_string (P := Try.prog) Try.underlying39 Try.underlying5 Try.underlying9 (Kd.own_of_R HO_5.out)
    go_wp2
    go_ret3
    exact ⟨sqE', sqB⟩
   rw [if_pos c2] at H
   have c2b0 := decide_eq_true c2
   clear c2
   by_cases c3 : 0 ≤ x10_1
   case neg => rw [if_neg c3] at H; exact absurd H (by simp)
   rw [if_pos c3] at H
   have c3b0 := decide_eq_true c3
   clear c3
   by_cases c4 : x10_1 < (l0.length : Int)
   case neg => rw [if_neg c4] at H; exact absurd H (by simp)
   rw [if_pos c4] at H
   have c4b0 := decide_eq_true c4
   clear c4
   obtain ⟨t147, A5, H⟩ := sqO H
   try dsimp only at H
   by_cases c6 : t147 = true
   case neg =>
    replace c6 := Bool.eq_false_iff.mpr c6
    subst c6
    have H1 : (some ((⟨#[]⟩ : ByteArray), x10_1, 31)) = some (r1, r2, r3) := by rw [if_neg (show ¬ (false = true) by decide)] at H; exact H
    clear H
    have H := H1
    clear H1
    simp only [Option.some.injEq, Prod.mk.injEq] at H
    obtain ⟨rfl, rfl, rfl⟩ := H
    have p146 : 0 ≤ (x10_1 : Int) := sqD
    have q146 : x10_1 < (l0.length : Int) := sqD
    obtain ⟨ad146, e146, hx146_0⟩ := Kd.at_int HR0.out x10_1 p146 q146
    cases e146
    replace hx146_0 := (HB.out.cell (World.block_lt_of_cell? w _ hx146_0)).trans hx146_0
    replace p146 := eq_true p146
    replace q146 := eq_true q146
    go_wp2_with (first | ((with_reducible refine gate_callee (f := 12) rfl ?_); refine goesL_ (some 16) rfl rfl Try.func12 (by kernel_rfl) rfl #[.int .i32 (rd l0 x10_1)] rfl sqA ?_; (with_reducible refine (scalar_Valid.calls (rd l0 x10_1) false _ A5.out).mono ?_); rintro e w' ⟨rfl, ⟨nd, rfl⟩⟩; refine ⟨_, rfl, ?_⟩))
    go_ret3
    exact ⟨sqE', sqB⟩
   subst c6
   have H1 : (if (rd l0 x10_1) < 128 then (if x5_1.length < 140737488355328 then (scalar_Encode.l0 k1 (x5_1 ++ [(rd l0 x10_1) % 256]) l0 (l0.length : Int) (wrap64 (x10_1 + 1))) else (none)) else (if (rd l0 x10_1) < 2048 then ((some (([(Go.bits .or .i32 192 ((rd l0 x10_1) / 64)) % 256, (Go.bits .or .i32 128 (Go.bits .and .i32 (rd l0 x10_1) 63)) % 256] : List Int) : List Int)).bind fun y151 => (if x5_1.length + y151.length < 140737488355328 then (scalar_Encode.l0 k1 (x5_1 ++ y151) l0 (l0.length : Int) (wrap64 (x10_1 + 1))) else (none))) else (if (rd l0 x10_1) < 65536 then ((some (([(Go.bits .or .i32 224 ((rd l0 x10_1) / 4096)) % 256, (Go.bits .or .i32 128 (Go.bits .and .i32 ((rd l0 x10_1) / 64) 63)) % 256, (Go.bits .or .i32 128 (Go.bits .and .i32 (rd l0 x10_1) 63)) % 256] : List Int) : List Int)).bind fun y157 => (if x5_1.length + y157.length < 140737488355328 then (scalar_Encode.l0 k1 (x5_1 ++ y157) l0 (l0.length : Int) (wrap64 (x10_1 + 1))) else (none))) else ((some (([(Go.bits .or .i32 240 ((rd l0 x10_1) / 262144)) % 256, (Go.bits .or .i32 128 (Go.bits .and .i32 ((rd l0 x10_1) / 4096) 63)) % 256, (Go.bits .or .i32 128 (Go.bits .and .i32 ((rd l0 x10_1) / 64) 63)) % 256, (Go.bits .or .i32 128 (Go.bits .and .i32 (rd l0 x10_1) 63)) % 256] : List Int) : List Int)).bind fun y163 => (if x5_1.length + y163.length < 140737488355328 then (scalar_Encode.l0 k1 (x5_1 ++ y163) l0 (l0.length : Int) (wrap64 (x10_1 + 1))) else (none)))))) = some (r1, r2, r3) := by rw [if_pos rfl] at H; exact H
   clear H
   have H := H1
   clear H1
   by_cases c7 : (rd l0 x10_1) < 128
   ·rw [if_pos c7] at H
    have c7b0 := decide_eq_true c7
    clear c7
    by_cases c8 : x5_1.length < 140737488355328
    case neg => rw [if_neg c8] at H; exact absurd H (by simp)
    rw [if_pos c8] at H
    have LMc8 := Aside0.mk c8
    clear c8
    obtain ⟨y148, hy148⟩ : ∃ y_ : List Int, y_ = (x5_1 ++ [(rd l0 x10_1) % 256]) := ⟨_, rfl⟩
    replace H : (scalar_Encode.l0 k1 y148 l0 (l0.length : Int) (wrap64 (x10_1 + 1))) = some (r1, r2, r3) := by first | (rw [hy148]; with_reducible exact H) | (have H2_ := (Option.bind_some _ _).symm.trans H; rw [hy148]; with_reducible exact H2_) | (have H2_ := (Option.bind_some _ _).symm.trans H; with_reducible exact H2_) | with_reducible exact H | (rw [hy148]; exact H) | exact H
    have Ny148 := Aside0.mk hy148
    clear hy148
    have H' := Aside0.mk H
    clear H
    have p146 : 0 ≤ (x10_1 : Int) := sqD
    have q146 : x10_1 < (l0.length : Int) := sqD
    obtain ⟨ad146, e146, hx146_0⟩ := Kd.at_int HR0.out x10_1 p146 q146
    cases e146
    replace hx146_0 := (HB.out.cell (World.block_lt_of_cell? w _ hx146_0)).trans hx146_0
    replace p146 := eq_true p146
    replace q146 := eq_true q146
    go_wp2_with (first | ((with_reducible refine gate_callee (f := 12) rfl ?_); refine goesL_ (some 16) rfl rfl Try.func12 (by kernel_rfl) rfl #[.int .i32 (rd l0 x10_1)] rfl sqA ?_; (with_reducible refine (scalar_Valid.calls (rd l0 x10_1) true _ A5.out).mono ?_); rintro e w' ⟨rfl, ⟨nd, rfl⟩⟩; refine ⟨_, rfl, ?_⟩) | ((with_reducible refine gate_builtin (b := .append) (xs := #[.tmp 43, .tmp 46]) rfl ?_); at_builtin; refine Kd.R_append (Kd.int .u8) (w0 := w) w.heap.size rfl (.tmp 43) (.tmp 46) 39 5 (.int .u8 0) 1 rfl Try.underlying39 info5 rfl (by decide) (by omega) u5 x5_1 ((rd l0 x10_1) % 256) [.int .u8 ((rd l0 x10_1) % 256)] (fun _ => True) (fun _ => False) rfl rfl ?aP (fun _ hk => hk.elim) ?aF ?aO ?aB ?aS ?aL ?_; (case aP => exact rfl); (case aB => exact sqB); (case aF => exact (fun _ _ => trivial)); (case aO => exact (sqR HO_5.out)); (case aS => exact (below_size sqB)); (case aL => have := LMc8.out; omega); intro v149 w9 ho hb hg hat; rw [← Ny148.out] at ho; have n0_ := Aside0.mk (hb); have n1_ := Aside0.mk (ho); clear HB; clear HO_5; have HB := n0_; have HO150 := n1_; clear n0_ n1_; clear ho hb hg hat))
    go_roundg k1
    case measure => have := HK1.out; omega
    case rel => exact ⟨(y148), (wrap64 (x10_1 + 1)), sqE, H', ⟨by have := HK1.out; omega⟩, ⟨sqR HO150.out⟩, ⟨sqB⟩⟩
   rw [if_neg c7] at H
   have c7b0 := decide_eq_false c7
   clear c7
   by_cases c10 : (rd l0 x10_1) < 2048
   ·rw [if_pos c10] at H
    have c10b0 := decide_eq_true c10
    clear c10
    obtain ⟨y151, hy151⟩ : ∃ y_ : List Int, y_ = (([(Go.bits .or .i32 192 ((rd l0 x10_1) / 64)) % 256, (Go.bits .or .i32 128 (Go.bits .and .i32 (rd l0 x10_1) 63)) % 256] : List Int)) := ⟨_, rfl⟩
    replace H : (if x5_1.length + y151.length < 140737488355328 then (scalar_Encode.l0 k1 (x5_1 ++ y151) l0 (l0.length : Int) (wrap64 (x10_1 + 1))) else (none)) = some (r1, r2, r3) := by first | (rw [hy151]; with_reducible exact H) | (have H2_ := (Option.bind_some _ _).symm.trans H; rw [hy151]; with_reducible exact H2_) | (have H2_ := (Option.bind_some _ _).symm.trans H; with_reducible exact H2_) | with_reducible exact H | (rw [hy151]; exact H) | exact H
    have Ny151 := Aside0.mk hy151
    clear hy151
    by_cases c11 : x5_1.length + y151.length < 140737488355328
    case neg => rw [if_neg c11] at H; exact absurd H (by simp)
    rw [if_pos c11] at H
    have LMc11 := Aside0.mk c11
    clear c11
    obtain ⟨y154, hy154⟩ : ∃ y_ : List Int, y_ = (x5_1 ++ y151) := ⟨_, rfl⟩
    replace H : (scalar_Encode.l0 k1 y154 l0 (l0.length : Int) (wrap64 (x10_1 + 1))) = some (r1, r2, r3) := by first | (rw [hy154]; with_reducible exact H) | (have H2_ := (Option.bind_some _ _).symm.trans H; rw [hy154]; with_reducible exact H2_) | (have H2_ := (Option.bind_some _ _).symm.trans H; with_reducible exact H2_) | with_reducible exact H | (rw [hy154]; exact H) | exact H
    have Ny154 := Aside0.mk hy154
    clear hy154
    have H' := Aside0.mk H
    clear H
    have p146 : 0 ≤ (x10_1 : Int) := sqD
    have q146 : x10_1 < (l0.length : Int) := sqD
    obtain ⟨ad146, e146, hx146_0⟩ := Kd.at_int HR0.out x10_1 p146 q146
    cases e146
    replace hx146_0 := (HB.out.cell (World.block_lt_of_cell? w _ hx146_0)).trans hx146_0
    replace p146 := eq_true p146
    replace q146 := eq_true q146
    go_wp2_with (first | ((with_reducible refine gate_callee (f := 12) rfl ?_); refine goesL_ (some 16) rfl rfl Try.func12 (by kernel_rfl) rfl #[.int .i32 (rd l0 x10_1)] rfl sqA ?_; (with_reducible refine (scalar_Valid.calls (rd l0 x10_1) true _ A5.out).mono ?_); rintro e w' ⟨rfl, ⟨nd, rfl⟩⟩; refine ⟨_, rfl, ?_⟩) | ((with_reducible refine gate_dst (N := 60) rfl ?_); refine Kd.R_lit (Kd.int .u8) _ 5 ?hg (N := 60) ?hd (xs := ([(Go.bits .or .i32 192 ((rd l0 x10_1) / 64)) % 256, (Go.bits .or .i32 128 (Go.bits .and .i32 (rd l0 x10_1) 63)) % 256] : List Int)) (inner := [.int .u8 ((Go.bits .or .i32 192 ((rd l0 x10_1) / 64)) % 256), .int .u8 ((Go.bits .or .i32 128 (Go.bits .and .i32 (rd l0 x10_1) 63)) % 256)]) (ok := fun _ => True) (okp := fun _ => True) ?hr ?hp (fun _ hk => hk) trivial (Below.refl _ _) (Nat.le_refl _) (by simp) ?_; (case hd => rfl); (case hg => rfl); (case hr => first | (go_simp; done) | (go_simp; rfl)); (case hp => exact (Reps.one (show Kd.M (Kd.int .u8) _ _ _ ((Go.bits .or .i32 192 ((rd l0 x10_1) / 64)) % 256) [.int .u8 ((Go.bits .or .i32 192 ((rd l0 x10_1) / 64)) % 256)] from rfl) (Reps.one (show Kd.M (Kd.int .u8) _ _ _ ((Go.bits .or .i32 128 (Go.bits .and .i32 (rd l0 x10_1) 63)) % 256) [.int .u8 ((Go.bits .or .i32 128 (Go.bits .and .i32 (rd l0 x10_1) 63)) % 256)] from rfl) (Reps.none _ _)))); intro v152 w12 ho13 hb hg_ hnew_; clear hg_ hnew_; (first | rw [← Ny151.out] at ho13 | (simp only [Int.reduceToNat] at ho13; rw [← Ny151.out] at ho13)); have n0_ := Aside0.mk (Kd.R_elder' (sqR HO_5.out) (Kd.R_base ho13) hb); have n1_ := Aside0.mk (Kd.R_lower (Kd.R_new' ho13 (Kd.R_lt (sqR HO_5.out))) (below_size sqB)); have n2_ := Aside0.mk (below_step sqB hb); clear HO_5; clear HB; have HO_5 := n0_; have HO153 := n1_; have HB := n2_; clear n0_ n1_ n2_; clear hb ho13; obtain ⟨Ao15, co15, eo15⟩ := Kd.R_slice HO153.out; subst eo15) | ((with_reducible refine gate_builtin (b := .append) (xs := #[.tmp 51, .tmp 60]) rfl ?_); at_builtin; refine Kd.R_append_rows (Kd.int .u8) (w0 := w) w.heap.size rfl (.tmp 51) (.tmp 60) 39 5 (.int .u8 0) 1 rfl Try.underlying39 info5 rfl (by decide) (by omega) u5 x5_1 y151 _ _ _ (fun k_ => some k_ ≠ (.slice Ao15 y151.length co15 : Value).ownBlock) (fun _ => False) rfl rfl ?aO ?aR (fun _ _ h => h) (fun _ h => h.elim) ?aF ?aB ?aS ?aL ?_; (case aR => repeat (first | exact (Kd.R_reads' HO153.out).2.2 | (with_reducible refine Kd.C_alloc ?_ _) | (with_reducible refine Kd.C_drewN ?_ _) | (with_reducible refine Kd.C_drew ?_))); (case aB => exact sqB); (case aF => exact (fun k_ hk => Kd.fresh' (Kd.R_lt (sqR HO153.out)) k_ hk)); (case aO => exact (by (with_reducible repeat (first | apply Kd.R_alloc | apply Kd.R_drewN | apply Kd.R_drew)); exact Kd.R_mono HO_5.out (fun _ hk => hk.2))); (case aS => exact (below_size sqB)); (case aL => have := LMc11.out; omega); intro v155 w14 ho hb hg hat; rw [← Ny154.out] at ho; have n0_ := Aside0.mk (Kd.R_after (ok := (fun _ => True)) (sqR HO153.out) hg hat); have n1_ := Aside0.mk (hb); have n2_ := Aside0.mk (ho); clear HO153; clear HB; clear HO_5; have HO153 := n0_; have HB := n1_; have HO156 := n2_; clear n0_ n1_ n2_; clear ho hb hg hat))
    go_roundg k1
    case measure => have := HK1.out; omega
    case rel => exact ⟨(y154), (wrap64 (x10_1 + 1)), sqE, H', ⟨by have := HK1.out; omega⟩, ⟨by (with_reducible repeat (first | apply Kd.R_alloc | apply Kd.R_drewN | apply Kd.R_drew)); exact Kd.R_mono HO156.out (fun _ hk => trivial)⟩, ⟨sqB⟩⟩
   rw [if_neg c10] at H
   have c10b0 := decide_eq_false c10
   clear c10
   by_cases c16 : (rd l0 x10_1) < 65536
   ·rw [if_pos c16] at H
    have c16b0 := decide_eq_true c16
    clear c16
    obtain ⟨y157, hy157⟩ : ∃ y_ : List Int, y_ = (([(Go.bits .or .i32 224 ((rd l0 x10_1) / 4096)) % 256, (Go.bits .or .i32 128 (Go.bits .and .i32 ((rd l0 x10_1) / 64) 63)) % 256, (Go.bits .or .i32 128 (Go.bits .and .i32 (rd l0 x10_1) 63)) % 256] : List Int)) := ⟨_, rfl⟩
    replace H : (if x5_1.length + y157.length < 140737488355328 then (scalar_Encode.l0 k1 (x5_1 ++ y157) l0 (l0.length : Int) (wrap64 (x10_1 + 1))) else (none)) = some (r1, r2, r3) := by first | (rw [hy157]; with_reducible exact H) | (have H2_ := (Option.bind_some _ _).symm.trans H; rw [hy157]; with_reducible exact H2_) | (have H2_ := (Option.bind_some _ _).symm.trans H; with_reducible exact H2_) | with_reducible exact H | (rw [hy157]; exact H) | exact H
    have Ny157 := Aside0.mk hy157
    clear hy157
    by_cases c17 : x5_1.length + y157.length < 140737488355328
    case neg => rw [if_neg c17] at H; exact absurd H (by simp)
    rw [if_pos c17] at H
    have LMc17 := Aside0.mk c17
    clear c17
    obtain ⟨y160, hy160⟩ : ∃ y_ : List Int, y_ = (x5_1 ++ y157) := ⟨_, rfl⟩
    replace H : (scalar_Encode.l0 k1 y160 l0 (l0.length : Int) (wrap64 (x10_1 + 1))) = some (r1, r2, r3) := by first | (rw [hy160]; with_reducible exact H) | (have H2_ := (Option.bind_some _ _).symm.trans H; rw [hy160]; with_reducible exact H2_) | (have H2_ := (Option.bind_some _ _).symm.trans H; with_reducible exact H2_) | with_reducible exact H | (rw [hy160]; exact H) | exact H
    have Ny160 := Aside0.mk hy160
    clear hy160
    have H' := Aside0.mk H
    clear H
    have p146 : 0 ≤ (x10_1 : Int) := sqD
    have q146 : x10_1 < (l0.length : Int) := sqD
    obtain ⟨ad146, e146, hx146_0⟩ := Kd.at_int HR0.out x10_1 p146 q146
    cases e146
    replace hx146_0 := (HB.out.cell (World.block_lt_of_cell? w _ hx146_0)).trans hx146_0
    replace p146 := eq_true p146
    replace q146 := eq_true q146
    go_wp2_with (first | ((with_reducible refine gate_callee (f := 12) rfl ?_); refine goesL_ (some 16) rfl rfl Try.func12 (by kernel_rfl) rfl #[.int .i32 (rd l0 x10_1)] rfl sqA ?_; (with_reducible refine (scalar_Valid.calls (rd l0 x10_1) true _ A5.out).mono ?_); rintro e w' ⟨rfl, ⟨nd, rfl⟩⟩; refine ⟨_, rfl, ?_⟩) | ((with_reducible refine gate_dst (N := 79) rfl ?_); refine Kd.R_lit (Kd.int .u8) _ 5 ?hg (N := 79) ?hd (xs := ([(Go.bits .or .i32 224 ((rd l0 x10_1) / 4096)) % 256, (Go.bits .or .i32 128 (Go.bits .and .i32 ((rd l0 x10_1) / 64) 63)) % 256, (Go.bits .or .i32 128 (Go.bits .and .i32 (rd l0 x10_1) 63)) % 256] : List Int)) (inner := [.int .u8 ((Go.bits .or .i32 224 ((rd l0 x10_1) / 4096)) % 256), .int .u8 ((Go.bits .or .i32 128 (Go.bits .and .i32 ((rd l0 x10_1) / 64) 63)) % 256), .int .u8 ((Go.bits .or .i32 128 (Go.bits .and .i32 (rd l0 x10_1) 63)) % 256)]) (ok := fun _ => True) (okp := fun _ => True) ?hr ?hp (fun _ hk => hk) trivial (Below.refl _ _) (Nat.le_refl _) (by simp) ?_; (case hd => rfl); (case hg => rfl); (case hr => first | (go_simp; done) | (go_simp; rfl)); (case hp => exact (Reps.one (show Kd.M (Kd.int .u8) _ _ _ ((Go.bits .or .i32 224 ((rd l0 x10_1) / 4096)) % 256) [.int .u8 ((Go.bits .or .i32 224 ((rd l0 x10_1) / 4096)) % 256)] from rfl) (Reps.one (show Kd.M (Kd.int .u8) _ _ _ ((Go.bits .or .i32 128 (Go.bits .and .i32 ((rd l0 x10_1) / 64) 63)) % 256) [.int .u8 ((Go.bits .or .i32 128 (Go.bits .and .i32 ((rd l0 x10_1) / 64) 63)) % 256)] from rfl) (Reps.one (show Kd.M (Kd.int .u8) _ _ _ ((Go.bits .or .i32 128 (Go.bits .and .i32 (rd l0 x10_1) 63)) % 256) [.int .u8 ((Go.bits .or .i32 128 (Go.bits .and .i32 (rd l0 x10_1) 63)) % 256)] from rfl) (Reps.none _ _))))); intro v158 w18 ho19 hb hg_ hnew_; clear hg_ hnew_; (first | rw [← Ny157.out] at ho19 | (simp only [Int.reduceToNat] at ho19; rw [← Ny157.out] at ho19)); have n0_ := Aside0.mk (Kd.R_elder' (sqR HO_5.out) (Kd.R_base ho19) hb); have n1_ := Aside0.mk (Kd.R_lower (Kd.R_new' ho19 (Kd.R_lt (sqR HO_5.out))) (below_size sqB)); have n2_ := Aside0.mk (below_step sqB hb); clear HO_5; clear HB; have HO_5 := n0_; have HO159 := n1_; have HB := n2_; clear n0_ n1_ n2_; clear hb ho19; obtain ⟨Ao21, co21, eo21⟩ := Kd.R_slice HO159.out; subst eo21) | ((with_reducible refine gate_builtin (b := .append) (xs := #[.tmp 65, .tmp 79]) rfl ?_); at_builtin; refine Kd.R_append_rows (Kd.int .u8) (w0 := w) w.heap.size rfl (.tmp 65) (.tmp 79) 39 5 (.int .u8 0) 1 rfl Try.underlying39 info5 rfl (by decide) (by omega) u5 x5_1 y157 _ _ _ (fun k_ => some k_ ≠ (.slice Ao21 y157.length co21 : Value).ownBlock) (fun _ => False) rfl rfl ?aO ?aR (fun _ _ h => h) (fun _ h => h.elim) ?aF ?aB ?aS ?aL ?_; (case aR => repeat (first | exact (Kd.R_reads' HO159.out).2.2 | (with_reducible refine Kd.C_alloc ?_ _) | (with_reducible refine Kd.C_drewN ?_ _) | (with_reducible refine Kd.C_drew ?_))); (case aB => exact sqB); (case aF => exact (fun k_ hk => Kd.fresh' (Kd.R_lt (sqR HO159.out)) k_ hk)); (case aO => exact (by (with_reducible repeat (first | apply Kd.R_alloc | apply Kd.R_drewN | apply Kd.R_drew)); exact Kd.R_mono HO_5.out (fun _ hk => hk.2))); (case aS => exact (below_size sqB)); (case aL => have := LMc17.out; omega); intro v161 w20 ho hb hg hat; rw [← Ny160.out] at ho; have n0_ := Aside0.mk (Kd.R_after (ok := (fun _ => True)) (sqR HO159.out) hg hat); have n1_ := Aside0.mk (hb); have n2_ := Aside0.mk (ho); clear HO159; clear HB; clear HO_5; have HO159 := n0_; have HB := n1_; have HO162 := n2_; clear n0_ n1_ n2_; clear ho hb hg hat))
    go_roundg k1
    case measure => have := HK1.out; omega
    case rel => exact ⟨(y160), (wrap64 (x10_1 + 1)), sqE, H', ⟨by have := HK1.out; omega⟩, ⟨by (with_reducible repeat (first | apply Kd.R_alloc | apply Kd.R_drewN | apply Kd.R_drew)); exact Kd.R_mono HO162.out (fun _ hk => trivial)⟩, ⟨sqB⟩⟩
   rw [if_neg c16] at H
   have c16b0 := decide_eq_false c16
   clear c16
   obtain ⟨y163, hy163⟩ : ∃ y_ : List Int, y_ = (([(Go.bits .or .i32 240 ((rd l0 x10_1) / 262144)) % 256, (Go.bits .or .i32 128 (Go.bits .and .i32 ((rd l0 x10_1) / 4096) 63)) % 256, (Go.bits .or .i32 128 (Go.bits .and .i32 ((rd l0 x10_1) / 64) 63)) % 256, (Go.bits .or .i32 128 (Go.bits .and .i32 (rd l0 x10_1) 63)) % 256] : List Int)) := ⟨_, rfl⟩
   replace H : (if x5_1.length + y163.length < 140737488355328 then (scalar_Encode.l0 k1 (x5_1 ++ y163) l0 (l0.length : Int) (wrap64 (x10_1 + 1))) else (none)) = some (r1, r2, r3) := by first | (rw [hy163]; with_reducible exact H) | (have H2_ := (Option.bind_some _ _).symm.trans H; rw [hy163]; with_reducible exact H2_) | (have H2_ := (Option.bind_some _ _).symm.trans H; with_reducible exact H2_) | with_reducible exact H | (rw [hy163]; exact H) | exact H
   have Ny163 := Aside0.mk hy163
   clear hy163
   by_cases c22 : x5_1.length + y163.length < 140737488355328
   case neg => rw [if_neg c22] at H; exact absurd H (by simp)
   rw [if_pos c22] at H
   have LMc22 := Aside0.mk c22
   clear c22
   obtain ⟨y166, hy166⟩ : ∃ y_ : List Int, y_ = (x5_1 ++ y163) := ⟨_, rfl⟩
   replace H : (scalar_Encode.l0 k1 y166 l0 (l0.length : Int) (wrap64 (x10_1 + 1))) = some (r1, r2, r3) := by first | (rw [hy166]; with_reducible exact H) | (have H2_ := (Option.bind_some _ _).symm.trans H; rw [hy166]; with_reducible exact H2_) | (have H2_ := (Option.bind_some _ _).symm.trans H; with_reducible exact H2_) | with_reducible exact H | (rw [hy166]; exact H) | exact H
   have Ny166 := Aside0.mk hy166
   clear hy166
   have H' := Aside0.mk H
   clear H
   have p146 : 0 ≤ (x10_1 : Int) := sqD
   have q146 : x10_1 < (l0.length : Int) := sqD
   obtain ⟨ad146, e146, hx146_0⟩ := Kd.at_int HR0.out x10_1 p146 q146
   cases e146
   replace hx146_0 := (HB.out.cell (World.block_lt_of_cell? w _ hx146_0)).trans hx146_0
   replace p146 := eq_true p146
   replace q146 := eq_true q146
   go_wp2_with (first | ((with_reducible refine gate_callee (f := 12) rfl ?_); refine goesL_ (some 16) rfl rfl Try.func12 (by kernel_rfl) rfl #[.int .i32 (rd l0 x10_1)] rfl sqA ?_; (with_reducible refine (scalar_Valid.calls (rd l0 x10_1) true _ A5.out).mono ?_); rintro e w' ⟨rfl, ⟨nd, rfl⟩⟩; refine ⟨_, rfl, ?_⟩) | ((with_reducible refine gate_dst (N := 38) rfl ?_); refine Kd.R_lit (Kd.int .u8) _ 5 ?hg (N := 38) ?hd (xs := ([(Go.bits .or .i32 240 ((rd l0 x10_1) / 262144)) % 256, (Go.bits .or .i32 128 (Go.bits .and .i32 ((rd l0 x10_1) / 4096) 63)) % 256, (Go.bits .or .i32 128 (Go.bits .and .i32 ((rd l0 x10_1) / 64) 63)) % 256, (Go.bits .or .i32 128 (Go.bits .and .i32 (rd l0 x10_1) 63)) % 256] : List Int)) (inner := [.int .u8 ((Go.bits .or .i32 240 ((rd l0 x10_1) / 262144)) % 256), .int .u8 ((Go.bits .or .i32 128 (Go.bits .and .i32 ((rd l0 x10_1) / 4096) 63)) % 256), .int .u8 ((Go.bits .or .i32 128 (Go.bits .and .i32 ((rd l0 x10_1) / 64) 63)) % 256), .int .u8 ((Go.bits .or .i32 128 (Go.bits .and .i32 (rd l0 x10_1) 63)) % 256)]) (ok := fun _ => True) (okp := fun _ => True) ?hr ?hp (fun _ hk => hk) trivial (Below.refl _ _) (Nat.le_refl _) (by simp) ?_; (case hd => rfl); (case hg => rfl); (case hr => first | (go_simp; done) | (go_simp; rfl)); (case hp => exact (Reps.one (show Kd.M (Kd.int .u8) _ _ _ ((Go.bits .or .i32 240 ((rd l0 x10_1) / 262144)) % 256) [.int .u8 ((Go.bits .or .i32 240 ((rd l0 x10_1) / 262144)) % 256)] from rfl) (Reps.one (show Kd.M (Kd.int .u8) _ _ _ ((Go.bits .or .i32 128 (Go.bits .and .i32 ((rd l0 x10_1) / 4096) 63)) % 256) [.int .u8 ((Go.bits .or .i32 128 (Go.bits .and .i32 ((rd l0 x10_1) / 4096) 63)) % 256)] from rfl) (Reps.one (show Kd.M (Kd.int .u8) _ _ _ ((Go.bits .or .i32 128 (Go.bits .and .i32 ((rd l0 x10_1) / 64) 63)) % 256) [.int .u8 ((Go.bits .or .i32 128 (Go.bits .and .i32 ((rd l0 x10_1) / 64) 63)) % 256)] from rfl) (Reps.one (show Kd.M (Kd.int .u8) _ _ _ ((Go.bits .or .i32 128 (Go.bits .and .i32 (rd l0 x10_1) 63)) % 256) [.int .u8 ((Go.bits .or .i32 128 (Go.bits .and .i32 (rd l0 x10_1) 63)) % 256)] from rfl) (Reps.none _ _)))))); intro v164 w23 ho24 hb hg_ hnew_; clear hg_ hnew_; (first | rw [← Ny163.out] at ho24 | (simp only [Int.reduceToNat] at ho24; rw [← Ny163.out] at ho24)); have n0_ := Aside0.mk (Kd.R_elder' (sqR HO_5.out) (Kd.R_base ho24) hb); have n1_ := Aside0.mk (Kd.R_lower (Kd.R_new' ho24 (Kd.R_lt (sqR HO_5.out))) (below_size sqB)); have n2_ := Aside0.mk (below_step sqB hb); clear HO_5; clear HB; have HO_5 := n0_; have HO165 := n1_; have HB := n2_; clear n0_ n1_ n2_; clear hb ho24; obtain ⟨Ao26, co26, eo26⟩ := Kd.R_slice HO165.out; subst eo26) | ((with_reducible refine gate_builtin (b := .append) (xs := #[.tmp 19, .tmp 38]) rfl ?_); at_builtin; refine Kd.R_append_rows (Kd.int .u8) (w0 := w) w.heap.size rfl (.tmp 19) (.tmp 38) 39 5 (.int .u8 0) 1 rfl Try.underlying39 info5 rfl (by decide) (by omega) u5 x5_1 y163 _ _ _ (fun k_ => some k_ ≠ (.slice Ao26 y163.length co26 : Value).ownBlock) (fun _ => False) rfl rfl ?aO ?aR (fun _ _ h => h) (fun _ h => h.elim) ?aF ?aB ?aS ?aL ?_; (case aR => repeat (first | exact (Kd.R_reads' HO165.out).2.2 | (with_reducible refine Kd.C_alloc ?_ _) | (with_reducible refine Kd.C_drewN ?_ _) | (with_reducible refine Kd.C_drew ?_))); (case aB => exact sqB); (case aF => exact (fun k_ hk => Kd.fresh' (Kd.R_lt (sqR HO165.out)) k_ hk)); (case aO => exact (by (with_reducible repeat (first | apply Kd.R_alloc | apply Kd.R_drewN | apply Kd.R_drew)); exact Kd.R_mono HO_5.out (fun _ hk => hk.2))); (case aS => exact (below_size sqB)); (case aL => have := LMc22.out; omega); intro v167 w25 ho hb hg hat; rw [← Ny166.out] at ho; have n0_ := Aside0.mk (Kd.R_after (ok := (fun _ => True)) (sqR HO165.out) hg hat); have n1_ := Aside0.mk (hb); have n2_ := Aside0.mk (ho); clear HO165; clear HB; clear HO_5; have HO165 := n0_; have HB := n1_; have HO168 := n2_; clear n0_ n1_ n2_; clear ho hb hg hat))
   go_roundg k1
   case measure => have := HK1.out; omega
   case rel => exact ⟨(y166), (wrap64 (x10_1 + 1)), sqE, H', ⟨by have := HK1.out; omega⟩, ⟨by (with_reducible repeat (first | apply Kd.R_alloc | apply Kd.R_drewN | apply Kd.R_drew)); exact Kd.R_mono HO168.out (fun _ hk => trivial)⟩, ⟨sqB⟩⟩
def endonymlaw3_told.f (k : Nat)  : Option (Bool) := (scalar_Decode.f k (⟨#[97, 195, 159]⟩ : ByteArray)).bind fun bt169 => ((scalar_Encode.f k (([223] : List Int))).bind fun bt177 => ((scalar_Decode.f k (⟨#[224, 128]⟩ : ByteArray)).bind fun bt180 => (if bt169.2.2 = 0 then (if bt169.2.1 = 0 then (if (bt169.1.length : Int) = 2 then (if 1 < (bt169.1.length : Int) then (if (rd bt169.1 1) = 223 then (if bt177.1.toList = ([195, 159] : List UInt8) then (if bt177.2.2 = 0 then (if bt180.2.1 = 1 then (if bt180.2.2 = 30 then ((scalar_Split.f k ([] : List Int)).bind fun t186 => (if (t186.length : Int) = 1 then ((scalar_Valid.f 57344).bind fun t189 => (some t189)) else (some false))) else (some false)) else (some false)) else (some false)) else (some false)) else (some false)) else (none)) else (some false)) else (some false)) else (some false))))
theorem endonymlaw3_told.mono : ∀ k, LeO (endonymlaw3_told.f k ) (endonymlaw3_told.f (k + 1) ) := by
 intro  k
 unfold endonymlaw3_told.f
 repeat' first | (with_reducible first | apply scalar_Decode.mono | apply scalar_Encode.mono | apply scalar_Split.mono | apply LeO.refl | apply LeO.none | refine LeO.ite ?_ ?_ | refine LeO.bind ?_ (fun _ => ?_)) | apply LeO.none | refine LeO.ite ?_ ?_ | refine LeO.bind ?_ (fun _ => ?_)
set_option maxRecDepth 100000 in
theorem endonymlaw3_told.at100 : endonymlaw3_told.f 100 = some true := by decide +kernel
theorem endonymlaw3_told.calls (k : Nat)  (r : Bool) (w : World) (h : endonymlaw3_told.f k  = some r) :
  Calls Try.prog 7 #[] w fun e w' => e = .returned (.bool r) ∧ Below w.heap.size w w' := by
 have HB := Aside0.mk (Below.refl w.heap.size w)
 have H : ((scalar_Decode.f k (⟨#[97, 195, 159]⟩ : ByteArray)).bind fun bt169 => ((scalar_Encode.f k (([223] : List Int))).bind fun bt177 => ((scalar_Decode.f k (⟨#[224, 128]⟩ : ByteArray)).bind fun bt180 => (if bt169.2.2 = 0 then (if bt169.2.1 = 0 then (if (bt169.1.length : Int) = 2 then (if 1 < (bt169.1.length : Int) then (if (rd bt169.1 1) = 223 then (if bt177.1.toList = ([195, 159] : List UInt8) then (if bt177.2.2 = 0 then (if bt180.2.1 = 1 then (if bt180.2.2 = 30 then ((scalar_Split.f k ([] : List Int)).bind fun t186 => (if (t186.length : Int) = 1 then ((scalar_Valid.f 57344).bind fun t189 => (some t189)) else (some false))) else (some false)) else (some false)) else (some false)) else (some false)) else (some false)) else (none)) else (some false)) else (some false)) else (some false))))) = some r := h
 have hr : r = true := Option.some.inj ((at_rounds (g := fun k => endonymlaw3_told.f k) endonymlaw3_told.mono (Nat.le_max_left k 100) h).symm.trans (at_rounds (g := fun k => endonymlaw3_told.f k) endonymlaw3_told.mono (Nat.le_max_right k 100) endonymlaw3_told.at100))
 clear h
 obtain ⟨⟨t169, t170, t171⟩, A1, H⟩ := sqO H
 try dsimp only at H
 obtain ⟨y174, hy174⟩ : ∃ y_ : List Int, y_ = (([223] : List Int)) := ⟨_, rfl⟩
 replace H : ((scalar_Encode.f k y174).bind fun bt177 => ((scalar_Decode.f k (⟨#[224, 128]⟩ : ByteArray)).bind fun bt180 => (if t171 = 0 then (if t170 = 0 then (if (t169.length : Int) = 2 then (if 1 < (t169.length : Int) then (if (rd t169 1) = 223 then (if bt177.1.toList = ([195, 159] : List UInt8) then (if bt177.2.2 = 0 then (if bt180.2.1 = 1 then (if bt180.2.2 = 30 then ((scalar_Split.f k ([] : List Int)).bind fun t186 => (if (t186.length : Int) = 1 then ((scalar_Valid.f 57344).bind fun t189 => (some t189)) else (some false))) else (some false)) else (some false)) else (some false)) else (some false)) else (some false)) else (none)) else (some false)) else (some false)) else (some false)))) = some r := by first | (rw [hy174]; with_reducible exact H) | (have H2_ := (Option.bind_some _ _).symm.trans H; rw [hy174]; with_reducible exact H2_) | (have H2_ := (Option.bind_some _ _).symm.trans H; with_reducible exact H2_) | with_reducible exact H | (rw [hy174]; exact H) | exact H
 have Ny174 := Aside0.mk hy174
 clear hy174
 obtain ⟨⟨t177, t178, t179⟩, A2, H⟩ := sqO H
 try dsimp only at H
 obtain ⟨⟨t180, t181, t182⟩, A3, H⟩ := sqO H
 try dsimp only at H
 by_cases c4 : t171 = 0
 case neg => rw [if_neg c4, hr] at H; exact absurd H (by simp)
 rw [if_pos c4] at H
 have c4b0 := beq_iff_eq.mpr c4
 have c4b1 := bne_eq_false_iff_eq.mpr c4
 clear c4
 by_cases c5 : t170 = 0
 case neg => rw [if_neg c5, hr] at H; exact absurd H (by simp)
 rw [if_pos c5] at H
 have c5b0 := beq_iff_eq.mpr c5
 have c5b1 := bne_eq_false_iff_eq.mpr c5
 clear c5
 by_cases c6 : (t169.length : Int) = 2
 case neg => rw [if_neg c6, hr] at H; exact absurd H (by simp)
 rw [if_pos c6] at H
 have c6b0 := beq_iff_eq.mpr c6
 have c6b1 := bne_eq_false_iff_eq.mpr c6
 clear c6
 by_cases c7 : 1 < (t169.length : Int)
 case neg => rw [if_neg c7, hr] at H; exact absurd H (by simp)
 rw [if_pos c7] at H
 have c7b0 := decide_eq_true c7
 have c7b1 : decide (1 < t169.length) = true := decide_eq_true (by omega)
 clear c7
 by_cases c8 : (rd t169 1) = 223
 case neg => rw [if_neg c8, hr] at H; exact absurd H (by simp)
 rw [if_pos c8] at H
 have c8b0 := beq_iff_eq.mpr c8
 have c8b1 := bne_eq_false_iff_eq.mpr c8
 clear c8
 by_cases c9 : t177.toList = ([195, 159] : List UInt8)
 case neg => rw [if_neg c9, hr] at H; exact absurd H (by simp)
 rw [if_pos c9] at H
 have c9b0 := beq_iff_eq.mpr c9
 have c9b1 := bne_eq_false_iff_eq.mpr c9
 clear c9
 by_cases c10 : t179 = 0
 case neg => rw [if_neg c10, hr] at H; exact absurd H (by simp)
 rw [if_pos c10] at H
 have c10b0 := beq_iff_eq.mpr c10
 have c10b1 := bne_eq_false_iff_eq.mpr c10
 clear c10
 by_cases c11 : t181 = 1
 case neg => rw [if_neg c11, hr] at H; exact absurd H (by simp)
 rw [if_pos c11] at H
 have c11b0 := beq_iff_eq.mpr c11
 have c11b1 := bne_eq_false_iff_eq.mpr c11
 clear c11
 by_cases c12 : t182 = 30
 case neg => rw [if_neg c12, hr] at H; exact absurd H (by simp)
 rw [if_pos c12] at H
 have c12b0 := beq_iff_eq.mpr c12
 have c12b1 := bne_eq_false_iff_eq.mpr c12
 clear c12
 obtain ⟨t186, A13, H⟩ := sqO H
 try dsimp only at H
 by_cases c14 : (t186.length : Int) = 1
 case neg => rw [if_neg c14, hr] at H; exact absurd H (by simp)
 rw [if_pos c14] at H
 have c14b0 := beq_iff_eq.mpr c14
 have c14b1 := bne_eq_false_iff_eq.mpr c14
 clear c14
 obtain ⟨t189, A15, H⟩ := sqO H
 try dsimp only at H
 obtain rfl := Option.some.inj H
 go_enter Try.func7, Try.ntmps7
 go_wp2_with (first | ((with_reducible refine gate_callee (f := 10) rfl ?_); refine goesL_ (some 11) rfl rfl Try.func10 (by kernel_rfl) rfl #[.string (⟨#[97, 195, 159]⟩ : ByteArray)] rfl sqA ?_; (with_reducible refine (scalar_Decode.calls k (⟨#[97, 195, 159]⟩ : ByteArray) t169 t170 t171 _ A1.out).mono ?_); rintro e w16 ⟨v172, rfl, ho0, hb⟩; refine ⟨_, rfl, ?_⟩; have n0_ := Aside0.mk (Kd.R_lower ho0 (below_size sqB)); have n1_ := Aside0.mk (below_step sqB hb); clear HB; have HO173 := n0_; have HB := n1_; clear n0_ n1_; (try clear hb); (try clear hb2); (try clear hk); (try clear hi); (try clear ho0)) | ((with_reducible refine gate_dst (N := 16) rfl ?_); (try (refine gate_guard (by rfl) ?_; dsimp only)); refine Kd.R_lit (Kd.int .i32) _ 21 ?hg (N := 16) ?hd (xs := ([223] : List Int)) (inner := [.int .i32 223]) (ok := fun _ => True) (okp := fun _ => True) ?hr ?hp (fun _ hk => hk) trivial (Below.refl _ _) (Nat.le_refl _) (by simp) ?_; (case hd => rfl); (case hg => rfl); (case hr => first | (go_simp; done) | (go_simp; rfl)); (case hp => exact (Reps.one (show Kd.M (Kd.int .i32) _ _ _ 223 [.int .i32 223] from rfl) (Reps.none _ _))); intro v175 w17 ho18 hb hg_ hnew_; clear hg_ hnew_; (first | rw [← Ny174.out] at ho18 | (simp only [Int.reduceToNat] at ho18; rw [← Ny174.out] at ho18)); have n0_ := Aside0.mk (Kd.R_elder' (sqR HO173.out) (Kd.R_base ho18) hb); have n1_ := Aside0.mk (Kd.R_lower (Kd.R_new' ho18 (Kd.R_lt (sqR HO173.out))) (below_size sqB)); have n2_ := Aside0.mk (below_step sqB hb); clear HO173; clear HB; have HO173 := n0_; have HO176 := n1_; have HB := n2_; clear n0_ n1_ n2_; clear hb ho18; obtain ⟨Ao19, co19, eo19⟩ := Kd.R_slice HO176.out; subst eo19) | ((with_reducible refine gate_callee (f := 11) rfl ?_); refine goesL_ (some 17) rfl rfl Try.func11 (by kernel_rfl) rfl #[.slice Ao19 y174.length co19] rfl sqA ?_; (with_reducible refine (scalar_Encode.calls k _ _ y174 t177 t178 t179 _ ?side1 ?side2 A2.out).mono ?_); (case side1 => repeat (first | exact (Kd.R_reads' HO176.out).2.2 | (with_reducible refine Kd.C_alloc ?_ _) | (with_reducible refine Kd.C_drewN ?_ _) | (with_reducible refine Kd.C_drew ?_))); (case side2 => exact (Kd.R_reads' HO176.out).2.1); rintro e w20 ⟨rfl, hb⟩; refine ⟨_, rfl, ?_⟩; have n0_ := Aside0.mk (Kd.R_below (sqR HO173.out) hb); have n1_ := Aside0.mk (Kd.R_below (sqR HO176.out) hb); have n2_ := Aside0.mk (below_step sqB hb); clear HO173; clear HO176; clear HB; have HO173 := n0_; have HO176 := n1_; have HB := n2_; clear n0_ n1_ n2_; (try clear hb); (try clear hb2); (try clear hk); (try clear hi)) | ((with_reducible refine gate_callee (f := 10) rfl ?_); refine goesL_ (some 22) rfl rfl Try.func10 (by kernel_rfl) rfl #[.string (⟨#[224, 128]⟩ : ByteArray)] rfl sqA ?_; (with_reducible refine (scalar_Decode.calls k (⟨#[224, 128]⟩ : ByteArray) t180 t181 t182 _ A3.out).mono ?_); rintro e w21 ⟨v183, rfl, ho0, hb⟩; refine ⟨_, rfl, ?_⟩; have n0_ := Aside0.mk (Kd.R_elder' (sqR HO173.out) (Kd.R_base ho0) hb); have n1_ := Aside0.mk (Kd.R_elder' (sqR HO176.out) (Kd.R_base ho0) hb); have n2_ := Aside0.mk (Kd.R_lower (Kd.R_new' (Kd.R_new' ho0 (Kd.R_lt (sqR HO173.out))) (Kd.R_lt (sqR HO176.out))) (below_size sqB)); have n3_ := Aside0.mk (below_step sqB hb); clear HO173; clear HO176; clear HB; have HO173 := n0_; have HO176 := n1_; have HO184 := n2_; have HB := n3_; clear n0_ n1_ n2_ n3_; (try clear hb); (try clear hb2); (try clear hk); (try clear hi); (try clear ho0); obtain ⟨Ao22, co22, eo22⟩ := Kd.R_slice HO173.out; subst eo22; have p185 : 0 ≤ (1 : Int) := (by omega); have q185 : 1 < (t169.length : Int) := sqD; obtain ⟨ad185, e185, hx185_0⟩ := Kd.at_int (Kd.R_reads' HO173.out).2.2 1 p185 q185; cases e185; (try simp only [show (1 : Int).toNat = 1 from rfl, Nat.reduceMul, Nat.reduceEqDiff, Go.Addr.add, ↓reduceIte] at hx185_0); have qi185 : (1 < t169.length) = True := eq_true (by omega); (try rw [show ((1 : Int)).toNat = 1 from rfl] at hx185_0); replace p185 := eq_true p185; replace q185 := eq_true q185) | (go_at_call 5; (refine (scalar_Split.calls k _ _ ([] : List Int) t186 _ ?side1 ?side2 A13.out).mono ?_); (case side1 => exact Kd.C_nil _ _); (case side2 => exact Nat.le_refl _); rintro e w23 ⟨v187, rfl, ho0, hb⟩; have n0_ := Aside0.mk (Kd.R_below (sqR HO173.out) hb); have n1_ := Aside0.mk (Kd.R_below (sqR HO176.out) hb); have n2_ := Aside0.mk (Kd.R_below (sqR HO184.out) hb); have n3_ := Aside0.mk (Kd.S_lower (Kd.S_new' (Kd.S_new' (Kd.S_new' ho0 (Kd.R_lt (sqR HO173.out))) (Kd.R_lt (sqR HO176.out))) (Kd.R_lt (sqR HO184.out))) (below_size sqB)); have n4_ := Aside0.mk (below_step sqB hb); clear HO173; clear HO176; clear HO184; clear HB; have HO173 := n0_; have HO176 := n1_; have HO184 := n2_; have HO188 := n3_; have HB := n4_; clear n0_ n1_ n2_ n3_ n4_; (try clear hb); (try clear hb2); (try clear hk); (try clear hi); (try clear ho0); obtain ⟨Ao24, co24, eo24⟩ := Kd.S_slice HO188.out; subst eo24) | (go_at_call 12; (with_reducible refine (scalar_Valid.calls 57344 t189 _ A15.out).mono ?_); rintro e w' ⟨rfl, ⟨nd, rfl⟩⟩))
 go_ret
 exact ⟨sqE', sqB⟩
def endonymref3_Same.l0 : Nat → List Int → List Int → Int → Option (Bool)
 | 0, _, _, _ => none
 | k + 1, x0, x1, x5 => if x5 < (x0.length : Int) then (if 0 ≤ x5 then (if x5 < (x1.length : Int) then (if (rd x0 x5) = (rd x1 x5) then (endonymref3_Same.l0 k x0 x1 (wrap64 (x5 + 1))) else (some false)) else (none)) else (none)) else (some true)
def endonymref3_Same.f (k : Nat) (l0 : List Int) (l1 : List Int) : Option (Bool) := if (l0.length : Int) = (l1.length : Int) then (endonymref3_Same.l0 k l0 l1 0) else (some false)
theorem endonymref3_Same.mono_l : ∀ k, (∀ y0 y1 y2, LeO (endonymref3_Same.l0 k y0 y1 y2) (endonymref3_Same.l0 (k + 1) y0 y1 y2))
 | 0 => fun _ _ _ r h => by simp [endonymref3_Same.l0] at h
 | k + 1 => by
  have ih0 := endonymref3_Same.mono_l k
  intro y0 y1 y2
  unfold endonymref3_Same.l0
  repeat' first | (with_reducible first | apply ih0 | apply LeO.refl | apply LeO.none | refine LeO.ite ?_ ?_ | refine LeO.bind ?_ (fun _ => ?_)) | apply LeO.none | refine LeO.ite ?_ ?_ | refine LeO.bind ?_ (fun _ => ?_)
theorem endonymref3_Same.mono : ∀ a0 a1 k, LeO (endonymref3_Same.f k a0 a1) (endonymref3_Same.f (k + 1) a0 a1) := by
 intro a0 a1 k
 have ih0 := endonymref3_Same.mono_l k
 unfold endonymref3_Same.f
 repeat' first | (with_reducible first | apply ih0 | apply LeO.refl | apply LeO.none | refine LeO.ite ?_ ?_ | refine LeO.bind ?_ (fun _ => ?_)) | apply LeO.none | refine LeO.ite ?_ ?_ | refine LeO.bind ?_ (fun _ => ?_)
theorem endonymref3_Same.calls (k : Nat) (A0 : Option Addr) (c0 : Nat) (l0 : List Int) (A1 : Option Addr) (c1 : Nat) (l1 : List Int) (r : Bool) (w : World) (hr0 : Kd.C (Kd.int .i32) w A0 l0.length l0) (hc0 : l0.length ≤ c0) (hr1 : Kd.C (Kd.int .i32) w A1 l1.length l1) (hc1 : l1.length ≤ c1) (h : endonymref3_Same.f k l0 l1 = some r) :
  Calls Try.prog 13 #[.slice A0 l0.length c0, .slice A1 l1.length c1] w fun e w' => e = .returned (.bool r) ∧ Drawn0 w w' := by
 have HR0 := Aside0.mk hr0
 have HC0 := Aside0.mk hc0
 clear hr0 hc0
 have HR1 := Aside0.mk hr1
 have HC1 := Aside0.mk hc1
 clear hr1 hc1
 have H : (if (l0.length : Int) = (l1.length : Int) then (endonymref3_Same.l0 k l0 l1 0) else (some false)) = some r := h
 clear h
 by_cases c3 : (l0.length : Int) = (l1.length : Int)
 case neg =>
  rw [if_neg c3] at H
  have c3b0 := beq_eq_false_iff_ne.mpr c3
  have c3b1 := bne_iff_ne.mpr c3
  have c3b2 : (l0.length == l1.length) = false := by first | simpa using c3 | (simp at c3 ⊢; omega)
  obtain rfl := Option.some.inj H
  go_enter Try.func13, Try.ntmps13
  go_wp2
  repeat (go_quiet (fail); try go_wp2)
  go_ret
  exact ⟨sqE, sqW⟩
 rw [if_pos c3] at H
 have c3b0 := beq_iff_eq.mpr c3
 have c3b1 := bne_eq_false_iff_eq.mpr c3
 have c3b2 : (l0.length == l1.length) = true := by first | simpa using c3 | (simp at c3 ⊢; omega)
 clear c3
 have H' := Aside0.mk H
 clear H
 go_enter Try.func13, Try.ntmps13
 go_wp2
 repeat (go_quiet (fail); try go_wp2)
 go_loopg [5] k (fun kq v5 w' => ∃ (x5_1 : Int), v5 = .int .i64 x5_1 ∧ Aside0 (endonymref3_Same.l0 kq l0 l1 x5_1 = some r) ∧ Aside0 (kq ≤ k) ∧ Drawn0 w w')
 case atStart => exact ⟨(0), sqE, H', ⟨Nat.le_refl _⟩, sqW⟩
 case round =>
  clear H'
  try clear c1
  try clear p2
  try clear c3
  try clear c3b0
  try clear c3b1
  try clear c3b2
  obtain ⟨x5_1, rfl, HA, HK1, ⟨m1, rfl⟩⟩ := hrel
  cases gk with
  | zero => exact absurd HA.out (by simp [endonymref3_Same.l0])
  | succ k1 =>
   have H := HA.out
   clear HA
   simp only [endonymref3_Same.l0] at H
   by_cases c4 : x5_1 < (l0.length : Int)
   case neg =>
    rw [if_neg c4] at H
    have c4b0 := decide_eq_false c4
    clear c4
    obtain rfl := Option.some.inj H
    go_wp2
    repeat (go_quiet (fail); try go_wp2)
    go_ret
    exact ⟨sqE, sqW⟩
   rw [if_pos c4] at H
   have c4b0 := decide_eq_true c4
   clear c4
   by_cases c5 : 0 ≤ x5_1
   case neg => rw [if_neg c5] at H; exact absurd H (by simp)
   rw [if_pos c5] at H
   have c5b0 := decide_eq_true c5
   clear c5
   by_cases c6 : x5_1 < (l1.length : Int)
   case neg => rw [if_neg c6] at H; exact absurd H (by simp)
   rw [if_pos c6] at H
   have c6b0 := decide_eq_true c6
   clear c6
   by_cases c7 : (rd l0 x5_1) = (rd l1 x5_1)
   case neg =>
    rw [if_neg c7] at H
    have c7b0 := beq_eq_false_iff_ne.mpr c7
    have c7b1 := bne_iff_ne.mpr c7
    obtain rfl := Option.some.inj H
    have p190 : 0 ≤ (x5_1 : Int) := sqD
    have q190 : x5_1 < (l0.length : Int) := sqD
    obtain ⟨ad190, e190, hx190_0⟩ := Kd.at_int HR0.out x5_1 p190 q190
    cases e190
    replace p190 := eq_true p190
    replace q190 := eq_true q190
    have p191 : 0 ≤ (x5_1 : Int) := sqD
    have q191 : x5_1 < (l1.length : Int) := sqD
    obtain ⟨ad191, e191, hx191_0⟩ := Kd.at_int HR1.out x5_1 p191 q191
    cases e191
    replace p191 := eq_true p191
    replace q191 := eq_true q191
    go_wp2
    repeat (go_quiet (fail); try go_wp2)
    go_ret
    exact ⟨sqE, sqW⟩
   rw [if_pos c7] at H
   have c7b0 := beq_iff_eq.mpr c7
   have c7b1 := bne_eq_false_iff_eq.mpr c7
   clear c7
   have H' := Aside0.mk H
   clear H
   have p190 : 0 ≤ (x5_1 : Int) := sqD
   have q190 : x5_1 < (l0.length : Int) := sqD
   obtain ⟨ad190, e190, hx190_0⟩ := Kd.at_int HR0.out x5_1 p190 q190
   cases e190
   replace p190 := eq_true p190
   replace q190 := eq_true q190
   have p191 : 0 ≤ (x5_1 : Int) := sqD
   have q191 : x5_1 < (l1.length : Int) := sqD
   obtain ⟨ad191, e191, hx191_0⟩ := Kd.at_int HR1.out x5_1 p191 q191
   cases e191
   replace p191 := eq_true p191
   replace q191 := eq_true q191
   go_wp2
   repeat (go_quiet (fail); try go_wp2)
   go_roundg k1
   case measure => have := HK1.out; omega
   case rel => exact ⟨(wrap64 (x5_1 + 1)), sqE, H', ⟨by have := HK1.out; omega⟩, sqW⟩
def endonymref3_SameAll.l0 : Nat → List (List Int) → List (List Int) → Int → Option (Bool)
 | 0, _, _, _ => none
 | k + 1, x0, x1, x5 => if x5 < (x0.length : Int) then (if 0 ≤ x5 then (if x5 < (x1.length : Int) then ((endonymref3_Same.f k (rd_L1 x0 x5) (rd_L1 x1 x5)).bind fun t194 => (if t194 = true then (endonymref3_SameAll.l0 k x0 x1 (wrap64 (x5 + 1))) else (some false))) else (none)) else (none)) else (some true)
def endonymref3_SameAll.f (k : Nat) (l0 : List (List Int)) (l1 : List (List Int)) : Option (Bool) := if (l0.length : Int) = (l1.length : Int) then (endonymref3_SameAll.l0 k l0 l1 0) else (some false)
theorem endonymref3_SameAll.mono_l : ∀ k, (∀ y0 y1 y2, LeO (endonymref3_SameAll.l0 k y0 y1 y2) (endonymref3_SameAll.l0 (k + 1) y0 y1 y2))
 | 0 => fun _ _ _ r h => by simp [endonymref3_SameAll.l0] at h
 | k + 1 => by
  have ih0 := endonymref3_SameAll.mono_l k
  intro y0 y1 y2
  unfold endonymref3_SameAll.l0
  repeat' first | (with_reducible first | apply ih0 | apply endonymref3_Same.mono | apply LeO.refl | apply LeO.none | refine LeO.ite ?_ ?_ | refine LeO.bind ?_ (fun _ => ?_)) | apply LeO.none | refine LeO.ite ?_ ?_ | refine LeO.bind ?_ (fun _ => ?_)
theorem endonymref3_SameAll.mono : ∀ a0 a1 k, LeO (endonymref3_SameAll.f k a0 a1) (endonymref3_SameAll.f (k + 1) a0 a1) := by
 intro a0 a1 k
 have ih0 := endonymref3_SameAll.mono_l k
 unfold endonymref3_SameAll.f
 repeat' first | (with_reducible first | apply ih0 | apply endonymref3_Same.mono | apply LeO.refl | apply LeO.none | refine LeO.ite ?_ ?_ | refine LeO.bind ?_ (fun _ => ?_)) | apply LeO.none | refine LeO.ite ?_ ?_ | refine LeO.bind ?_ (fun _ => ?_)
theorem endonymref3_SameAll.calls (k : Nat) (A0 : Option Addr) (c0 : Nat) (l0 : List (List Int)) (A1 : Option Addr) (c1 : Nat) (l1 : List (List Int)) (r : Bool) (w : World) (hr0 : Kd.C (Kd.slice 21 (Kd.int .i32)) w A0 l0.length l0) (hc0 : l0.length ≤ c0) (hr1 : Kd.C (Kd.slice 21 (Kd.int .i32)) w A1 l1.length l1) (hc1 : l1.length ≤ c1) (h : endonymref3_SameAll.f k l0 l1 = some r) :
  Calls Try.prog 8 #[.slice A0 l0.length c0, .slice A1 l1.length c1] w fun e w' => e = .returned (.bool r) ∧ Drawn0 w w' := by
 have HR0 := Aside0.mk hr0
 have HC0 := Aside0.mk hc0
 clear hr0 hc0
 have HR1 := Aside0.mk hr1
 have HC1 := Aside0.mk hc1
 clear hr1 hc1
 have H : (if (l0.length : Int) = (l1.length : Int) then (endonymref3_SameAll.l0 k l0 l1 0) else (some false)) = some r := h
 clear h
 by_cases c3 : (l0.length : Int) = (l1.length : Int)
 case neg =>
  rw [if_neg c3] at H
  have c3b0 := beq_eq_false_iff_ne.mpr c3
  have c3b1 := bne_iff_ne.mpr c3
  have c3b2 : (l0.length == l1.length) = false := by first | simpa using c3 | (simp at c3 ⊢; omega)
  obtain rfl := Option.some.inj H
  go_enter Try.func8, Try.ntmps8
  go_wp2
  repeat (go_quiet (fail); try go_wp2)
  go_ret
  exact ⟨sqE, sqW⟩
 rw [if_pos c3] at H
 have c3b0 := beq_iff_eq.mpr c3
 have c3b1 := bne_eq_false_iff_eq.mpr c3
 have c3b2 : (l0.length == l1.length) = true := by first | simpa using c3 | (simp at c3 ⊢; omega)
 clear c3
 have H' := Aside0.mk H
 clear H
 go_enter Try.func8, Try.ntmps8
 go_wp2
 repeat (go_quiet (fail); try go_wp2)
 go_loopg [5] k (fun kq v5 w' => ∃ (x5_1 : Int), v5 = .int .i64 x5_1 ∧ Aside0 (endonymref3_SameAll.l0 kq l0 l1 x5_1 = some r) ∧ Aside0 (kq ≤ k) ∧ Drawn0 w w')
 case atStart => exact ⟨(0), sqE, H', ⟨Nat.le_refl _⟩, sqW⟩
 case round =>
  clear H'
  try clear c1
  try clear p2
  try clear c3
  try clear c3b0
  try clear c3b1
  try clear c3b2
  obtain ⟨x5_1, rfl, HA, HK1, ⟨m1, rfl⟩⟩ := hrel
  cases gk with
  | zero => exact absurd HA.out (by simp [endonymref3_SameAll.l0])
  | succ k1 =>
   have H := HA.out
   clear HA
   simp only [endonymref3_SameAll.l0] at H
   by_cases c4 : x5_1 < (l0.length : Int)
   case neg =>
    rw [if_neg c4] at H
    have c4b0 := decide_eq_false c4
    clear c4
    obtain rfl := Option.some.inj H
    go_wp2
    repeat (go_quiet (fail); try go_wp2)
    go_ret
    exact ⟨sqE, sqW⟩
   rw [if_pos c4] at H
   have c4b0 := decide_eq_true c4
   clear c4
   by_cases c5 : 0 ≤ x5_1
   case neg => rw [if_neg c5] at H; exact absurd H (by simp)
   rw [if_pos c5] at H
   have c5b0 := decide_eq_true c5
   clear c5
   by_cases c6 : x5_1 < (l1.length : Int)
   case neg => rw [if_neg c6] at H; exact absurd H (by simp)
   rw [if_pos c6] at H
   have c6b0 := decide_eq_true c6
   clear c6
   obtain ⟨t194, A7, H⟩ := sqO H
   try dsimp only at H
   by_cases c8 : t194 = true
   ·subst c8
    have H1 : (endonymref3_SameAll.l0 k1 l0 l1 (wrap64 (x5_1 + 1))) = some r := by rw [if_pos rfl] at H; exact H
    clear H
    have H := H1
    clear H1
    have H' := Aside0.mk H
    clear H
    have p192 : 0 ≤ (x5_1 : Int) := sqD
    have q192 : x5_1 < (l0.length : Int) := sqD
    obtain ⟨ad192, A192_0, c192_0, e192, hx192_0, hl192_0, hi192_0⟩ := at_L1 HR0.out x5_1 p192 q192
    cases e192
    have HR192_0 := Aside0.mk hi192_0
    have HC192_0 := Aside0.mk hl192_0
    clear hi192_0 hl192_0
    replace p192 := eq_true p192
    replace q192 := eq_true q192
    have p193 : 0 ≤ (x5_1 : Int) := sqD
    have q193 : x5_1 < (l1.length : Int) := sqD
    obtain ⟨ad193, A193_0, c193_0, e193, hx193_0, hl193_0, hi193_0⟩ := at_L1 HR1.out x5_1 p193 q193
    cases e193
    have HR193_0 := Aside0.mk hi193_0
    have HC193_0 := Aside0.mk hl193_0
    clear hi193_0 hl193_0
    replace p193 := eq_true p193
    replace q193 := eq_true q193
    go_wp2_with (first | (go_at_call 13; (with_reducible refine (endonymref3_Same.calls k1 _ _ (rd_L1 l0 x5_1) _ _ (rd_L1 l1 x5_1) true _ ?side1 ?side2 ?side3 ?side4 A7.out).mono ?_); (case side1 => repeat (first | exact HR192_0.out | (with_reducible refine Kd.C_alloc ?_ _) | (with_reducible refine Kd.C_drewN ?_ _) | (with_reducible refine Kd.C_drew ?_))); (case side2 => exact HC192_0.out); (case side3 => repeat (first | exact HR193_0.out | (with_reducible refine Kd.C_alloc ?_ _) | (with_reducible refine Kd.C_drewN ?_ _) | (with_reducible refine Kd.C_drew ?_))); (case side4 => exact HC193_0.out); rintro e w' ⟨rfl, ⟨nd, rfl⟩⟩; (try first | exact ⟨rfl, _, World.drewN_drewN _ _ _⟩ | exact ⟨rfl, _, Eq.trans (World.drewN_drewN _ _ _) (congrArg (World.drewN _) (Nat.add_assoc _ _ _))⟩)))
    repeat (go_quiet (first | (go_at_call 13; (with_reducible refine (endonymref3_Same.calls k1 _ _ (rd_L1 l0 x5_1) _ _ (rd_L1 l1 x5_1) true _ ?side1 ?side2 ?side3 ?side4 A7.out).mono ?_); (case side1 => repeat (first | exact HR192_0.out | (with_reducible refine Kd.C_alloc ?_ _) | (with_reducible refine Kd.C_drewN ?_ _) | (with_reducible refine Kd.C_drew ?_))); (case side2 => exact HC192_0.out); (case side3 => repeat (first | exact HR193_0.out | (with_reducible refine Kd.C_alloc ?_ _) | (with_reducible refine Kd.C_drewN ?_ _) | (with_reducible refine Kd.C_drew ?_))); (case side4 => exact HC193_0.out); rintro e w' ⟨rfl, ⟨nd, rfl⟩⟩; (try first | exact ⟨rfl, _, World.drewN_drewN _ _ _⟩ | exact ⟨rfl, _, Eq.trans (World.drewN_drewN _ _ _) (congrArg (World.drewN _) (Nat.add_assoc _ _ _))⟩))); try go_wp2_with (first | (go_at_call 13; (with_reducible refine (endonymref3_Same.calls k1 _ _ (rd_L1 l0 x5_1) _ _ (rd_L1 l1 x5_1) true _ ?side1 ?side2 ?side3 ?side4 A7.out).mono ?_); (case side1 => repeat (first | exact HR192_0.out | (with_reducible refine Kd.C_alloc ?_ _) | (with_reducible refine Kd.C_drewN ?_ _) | (with_reducible refine Kd.C_drew ?_))); (case side2 => exact HC192_0.out); (case side3 => repeat (first | exact HR193_0.out | (with_reducible refine Kd.C_alloc ?_ _) | (with_reducible refine Kd.C_drewN ?_ _) | (with_reducible refine Kd.C_drew ?_))); (case side4 => exact HC193_0.out); rintro e w' ⟨rfl, ⟨nd, rfl⟩⟩; (try first | exact ⟨rfl, _, World.drewN_drewN _ _ _⟩ | exact ⟨rfl, _, Eq.trans (World.drewN_drewN _ _ _) (congrArg (World.drewN _) (Nat.add_assoc _ _ _))⟩))))
    go_roundg k1
    case measure => have := HK1.out; omega
    case rel => exact ⟨(wrap64 (x5_1 + 1)), sqE, H', ⟨by have := HK1.out; omega⟩, sqW⟩
   replace c8 := Bool.eq_false_iff.mpr c8
   subst c8
   have H1 : (some false) = some r := by rw [if_neg (show ¬ (false = true) by decide)] at H; exact H
   clear H
   have H := H1
   clear H1
   obtain rfl := Option.some.inj H
   have p192 : 0 ≤ (x5_1 : Int) := sqD
   have q192 : x5_1 < (l0.length : Int) := sqD
   obtain ⟨ad192, A192_0, c192_0, e192, hx192_0, hl192_0, hi192_0⟩ := at_L1 HR0.out x5_1 p192 q192
   cases e192
   have HR192_0 := Aside0.mk hi192_0
   have HC192_0 := Aside0.mk hl192_0
   clear hi192_0 hl192_0
   replace p192 := eq_true p192
   replace q192 := eq_true q192
   have p193 : 0 ≤ (x5_1 : Int) := sqD
   have q193 : x5_1 < (l1.length : Int) := sqD
   obtain ⟨ad193, A193_0, c193_0, e193, hx193_0, hl193_0, hi193_0⟩ := at_L1 HR1.out x5_1 p193 q193
   cases e193
   have HR193_0 := Aside0.mk hi193_0
   have HC193_0 := Aside0.mk hl193_0
   clear hi193_0 hl193_0
   replace p193 := eq_true p193
   replace q193 := eq_true q193
   go_wp2_with (first | (go_at_call 13; (with_reducible refine (endonymref3_Same.calls k1 _ _ (rd_L1 l0 x5_1) _ _ (rd_L1 l1 x5_1) false _ ?side1 ?side2 ?side3 ?side4 A7.out).mono ?_); (case side1 => repeat (first | exact HR192_0.out | (with_reducible refine Kd.C_alloc ?_ _) | (with_reducible refine Kd.C_drewN ?_ _) | (with_reducible refine Kd.C_drew ?_))); (case side2 => exact HC192_0.out); (case side3 => repeat (first | exact HR193_0.out | (with_reducible refine Kd.C_alloc ?_ _) | (with_reducible refine Kd.C_drewN ?_ _) | (with_reducible refine Kd.C_drew ?_))); (case side4 => exact HC193_0.out); rintro e w' ⟨rfl, ⟨nd, rfl⟩⟩; (try first | exact ⟨rfl, _, World.drewN_drewN _ _ _⟩ | exact ⟨rfl, _, Eq.trans (World.drewN_drewN _ _ _) (congrArg (World.drewN _) (Nat.add_assoc _ _ _))⟩)))
   repeat (go_quiet (first | (go_at_call 13; (with_reducible refine (endonymref3_Same.calls k1 _ _ (rd_L1 l0 x5_1) _ _ (rd_L1 l1 x5_1) false _ ?side1 ?side2 ?side3 ?side4 A7.out).mono ?_); (case side1 => repeat (first | exact HR192_0.out | (with_reducible refine Kd.C_alloc ?_ _) | (with_reducible refine Kd.C_drewN ?_ _) | (with_reducible refine Kd.C_drew ?_))); (case side2 => exact HC192_0.out); (case side3 => repeat (first | exact HR193_0.out | (with_reducible refine Kd.C_alloc ?_ _) | (with_reducible refine Kd.C_drewN ?_ _) | (with_reducible refine Kd.C_drew ?_))); (case side4 => exact HC193_0.out); rintro e w' ⟨rfl, ⟨nd, rfl⟩⟩; (try first | exact ⟨rfl, _, World.drewN_drewN _ _ _⟩ | exact ⟨rfl, _, Eq.trans (World.drewN_drewN _ _ _) (congrArg (World.drewN _) (Nat.add_assoc _ _ _))⟩))); try go_wp2_with (first | (go_at_call 13; (with_reducible refine (endonymref3_Same.calls k1 _ _ (rd_L1 l0 x5_1) _ _ (rd_L1 l1 x5_1) false _ ?side1 ?side2 ?side3 ?side4 A7.out).mono ?_); (case side1 => repeat (first | exact HR192_0.out | (with_reducible refine Kd.C_alloc ?_ _) | (with_reducible refine Kd.C_drewN ?_ _) | (with_reducible refine Kd.C_drew ?_))); (case side2 => exact HC192_0.out); (case side3 => repeat (first | exact HR193_0.out | (with_reducible refine Kd.C_alloc ?_ _) | (with_reducible refine Kd.C_drewN ?_ _) | (with_reducible refine Kd.C_drew ?_))); (case side4 => exact HC193_0.out); rintro e w' ⟨rfl, ⟨nd, rfl⟩⟩; (try first | exact ⟨rfl, _, World.drewN_drewN _ _ _⟩ | exact ⟨rfl, _, Eq.trans (World.drewN_drewN _ _ _) (congrArg (World.drewN _) (Nat.add_assoc _ _ _))⟩))))
   go_ret
   exact ⟨sqE, sqW⟩
def endonymlaw3_whole.f (k : Nat) (l0 : List Int) (l1 : List Int) : Option (Bool) := (endonymref3_Same.f k l0 l1).bind fun t195 => (some t195)
theorem endonymlaw3_whole.mono : ∀ a0 a1 k, LeO (endonymlaw3_whole.f k a0 a1) (endonymlaw3_whole.f (k + 1) a0 a1) := by
 intro a0 a1 k
 unfold endonymlaw3_whole.f
 repeat' first | (with_reducible first | apply endonymref3_Same.mono | apply LeO.refl | apply LeO.none | refine LeO.ite ?_ ?_ | refine LeO.bind ?_ (fun _ => ?_)) | apply LeO.none | refine LeO.ite ?_ ?_ | refine LeO.bind ?_ (fun _ => ?_)
theorem endonymlaw3_whole.yes (k : Nat) (g : Nat) (c0 : Nat) (l0 : List Int) (A1 : Option Addr) (c1 : Nat) (l1 : List Int) (w : World) (hr0 : Kd.C (Kd.int .i32) w (some ⟨g, 0, none⟩) l0.length l0) (hc0 : l1.length + 2 ≤ c0) (hr1 : Kd.C (Kd.int .i32) w A1 l1.length l1) (hc1 : l1.length ≤ c1)
  (hl : l0.length = l1.length) (hm : l1.length + 2 ≤ 9223372036854775807)
  (h7 : w.cell? ⟨g, l1.length, none⟩ = some (.int .i32 (-7))) (h8 : w.cell? ⟨g, l1.length + 1, none⟩ = some (.int .i32 (-8))) (h : endonymref3_Same.f k l0 l1 = some true) :
  Calls Try.prog 9 #[.slice (some ⟨g, 0, none⟩) l0.length c0, .slice A1 l1.length c1] w fun e w' => e = .returned (.bool true) ∧ Drawn0 w w' := by
 have HR0 := Aside0.mk hr0
 have HR1 := Aside0.mk hr1
 have HC0 := Aside0.mk (show l0.length ≤ c0 by omega)
 have HC1 := Aside0.mk hc1
 have A3 := Aside0.mk h
 have H7 := Aside0.mk h7
 have H8 := Aside0.mk h8
 clear hr0 hr1 hc1 h h7 h8
 have hs : ∀ W : World, (Instr.slice 22 (.slice (some ⟨g, 0, none⟩) l0.length c0) none (some (.int .i64 ((l1.length : Int) + 2))) none).run Try.prog W = .ok (.slice (some ⟨g, 0, none⟩) (l1.length + 2) c0) W := by
  intro W
  obtain ⟨i0, hi, _, hsz, _⟩ := info_parts info21
  have hel : Try.prog.elem 22 = 21 := by simp [Program.elem, Try.underlying22]
  have hu : Try.prog.underlying 22 = some (.slice (Try.prog.elem 22)) := by rw [hel]; exact Try.underlying22
  have e : (l1.length : Int) + 2 = ((l1.length + 2 : Nat) : Int) := by omega
  rw [e, run_slice_h W 22 (some ⟨g, 0, none⟩) l0.length c0 hu .i64 _ (by omega) (by omega), hel, Int.toNat_natCast]
  simp [sizeOf, typeInfo, hi, hsz, sliced, Result.andThen, Addr.add]
 clear hl
 go_enter Try.func9, Try.ntmps9
 go_wp2_with (first | ((with_reducible refine gate_callee (f := 13) rfl ?_); refine goesL_ (some 10) rfl rfl Try.func13 (by kernel_rfl) rfl #[.slice (some ⟨g, 0, none⟩) l0.length c0, .slice A1 l1.length c1] rfl sqA ?_; (with_reducible refine (endonymref3_Same.calls k _ _ l0 _ _ l1 true _ ?side1 ?side2 ?side3 ?side4 A3.out).mono ?_); (case side1 => repeat (first | exact HR0.out | (with_reducible refine Kd.C_alloc ?_ _) | (with_reducible refine Kd.C_drewN ?_ _) | (with_reducible refine Kd.C_drew ?_))); (case side2 => exact HC0.out); (case side3 => repeat (first | exact HR1.out | (with_reducible refine Kd.C_alloc ?_ _) | (with_reducible refine Kd.C_drewN ?_ _) | (with_reducible refine Kd.C_drew ?_))); (case side4 => exact HC1.out); rintro e w' ⟨rfl, ⟨nd, rfl⟩⟩; refine ⟨_, rfl, ?_⟩; have h7 := H7.out; have h8 := H8.out))
 go_ret
 exact ⟨rfl, sqW⟩
theorem endonymlaw3_whole.calls (k : Nat) (A0 : Option Addr) (c0 : Nat) (l0 : List Int) (A1 : Option Addr) (c1 : Nat) (l1 : List Int) (r : Bool) (w : World) (hr0 : Kd.C (Kd.int .i32) w A0 l0.length l0) (hc0 : l0.length ≤ c0) (hr1 : Kd.C (Kd.int .i32) w A1 l1.length l1) (hc1 : l1.length ≤ c1) (hroom : Rm.Room w (.slice A0 l0.length c0) l0.length [.int .i32 (-7), .int .i32 (-8)]) (h : endonymlaw3_whole.f k l0 l1 = some r) :
  Calls Try.prog 9 #[.slice A0 l0.length c0, .slice A1 l1.length c1] w fun e w' => e = .returned (.bool r) ∧ Drawn0 w w' := by
 obtain ⟨g, c, e, ⟨hc2, hm⟩, hx⟩ := hroom
 obtain ⟨rfl, rfl⟩ : A0 = some ⟨g, 0, none⟩ ∧ c0 = c := by simpa using e
 clear e
 have H : ((endonymref3_Same.f k l0 l1).bind fun t223 => some t223) = some r := h
 clear h
 replace H := Option.bind_eq_some_iff.mp H
 obtain ⟨t223, A30, H⟩ := H
 obtain rfl := Option.some.inj H
 clear H
 cases t223 with
 | true =>
  have hl : l0.length = l1.length := by
   by_cases e : (l0.length : Int) = (l1.length : Int)
   ·
    omega
   ·
    unfold endonymref3_Same.f at A30
    rw [if_neg e] at A30
    cases A30
  have h7 := hx 0 _ rfl
  have h8 := hx 1 _ rfl
  rw [hl] at h7 h8
  exact endonymlaw3_whole.yes k g c0 l0 A1 c1 l1 w hr0 (by simp at hc2; omega) hr1 hc1 hl (by simp at hm; omega) h7 h8 A30
 | false =>
  have HR0 := Aside0.mk hr0
  have HC0 := Aside0.mk hc0
  have HR1 := Aside0.mk hr1
  have HC1 := Aside0.mk hc1
  have A3 := Aside0.mk A30
  clear hr0 hc0 hr1 hc1 A30 hx hc2 hm
  go_enter Try.func9, Try.ntmps9
  go_wp2_with (first | ((with_reducible refine gate_callee (f := 13) rfl ?_); refine goesL_ (some 10) rfl rfl Try.func13 (by kernel_rfl) rfl #[.slice (some ⟨g, 0, none⟩) l0.length c0, .slice A1 l1.length c1] rfl sqA ?_; (with_reducible refine (endonymref3_Same.calls k _ _ l0 _ _ l1 false _ ?side1 ?side2 ?side3 ?side4 A3.out).mono ?_); (case side1 => repeat (first | exact HR0.out | (with_reducible refine Kd.C_alloc ?_ _) | (with_reducible refine Kd.C_drewN ?_ _) | (with_reducible refine Kd.C_drew ?_))); (case side2 => exact HC0.out); (case side3 => repeat (first | exact HR1.out | (with_reducible refine Kd.C_alloc ?_ _) | (with_reducible refine Kd.C_drewN ?_ _) | (with_reducible refine Kd.C_drew ?_))); (case side4 => exact HC1.out); rintro e w' ⟨rfl, ⟨nd, rfl⟩⟩; refine ⟨_, rfl, ?_⟩))
  go_ret
  exact ⟨sqE, sqW⟩
end Go.Proofs.Ytkgapabnokmkeaa.A
