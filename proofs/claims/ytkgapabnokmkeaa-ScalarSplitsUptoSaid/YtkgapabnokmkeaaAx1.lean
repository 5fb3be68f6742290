import Derived.Test.YtkgapabnokmkeaaAx0
namespace Go.Proofs.Ytkgapabnokmkeaa.A
open Go.RowKit Go.Proofs.YtkgapabnokmkeaaW.PrintWords Go.Proofs.YtkgapabnokmkeaaW.PrintLast Go.Proofs.YtkgapabnokmkeaaW.PrintMore
set_option maxHeartbeats 8000000
set_option maxRecDepth 100000
attribute [local go_sem] max2_int min2_int max_two min_two max_three min_three max_four min_four
set_option linter.unusedVariables false
set_option linter.unusedSimpArgs false
def endonymlaw3_roomy.f (l0 : List Int) : Option (List Int) := if ([] : List Int).length + l0.length < 35184372088832 then ((some (([] : List Int) ++ l0 : List Int)).bind fun y101 => ((some (([(-7), (-8)] : List Int) : List Int)).bind fun y104 => (if y101.length + y104.length < 35184372088832 then ((some (y101 ++ y104 : List Int)).bind fun y107 => (if 0 ≤ (l0.length : Int) then (if (l0.length : Int) ≤ (y107.length : Int) then (some (y107.take ((l0.length : Int) : Int).toNat)) else (none)) else (none))) else (none)))) else (none)
theorem endonymlaw3_roomy.calls (A0 : Option Addr) (c0 : Nat) (l0 : List Int) (r : List Int) (w : World) (hr0 : Kd.C (Kd.int .i32) w A0 l0.length l0) (hc0 : l0.length ≤ c0) (h : endonymlaw3_roomy.f l0 = some r) :
  Calls Try.prog 4 #[.slice A0 l0.length c0] w fun e w' => ∃ v0_ : Value, e = .returned (v0_) ∧ Kd.R (Kd.int .i32) 21 w' w.heap.size (fun _ => True) v0_ r ∧ Below w.heap.size w w' ∧ Rm.Room w' v0_ r.length [.int .i32 (-7), .int .i32 (-8)] := by
 have HR0 := Aside0.mk hr0
 have HC0 := Aside0.mk hc0
 clear hr0 hc0
 have HB := Aside0.mk (Below.refl w.heap.size w)
 have H : (if ([] : List Int).length + l0.length < 35184372088832 then ((some (([] : List Int) ++ l0 : List Int)).bind fun y101 => ((some (([(-7), (-8)] : List Int) : List Int)).bind fun y104 => (if y101.length + y104.length < 35184372088832 then ((some (y101 ++ y104 : List Int)).bind fun y107 => (if 0 ≤ (l0.length : Int) then (if (l0.length : Int) ≤ (y107.length : Int) then (some (y107.take ((l0.length : Int) : Int).toNat)) else (none)) else (none))) else (none)))) else (none)) = some r := h
 clear h
 by_cases c2 : ([] : List Int).length + l0.length < 35184372088832
 case neg => rw [if_neg c2] at H; exact absurd H (by simp)
 rw [if_pos c2] at H
 have LMc2 := Aside0.mk c2
 clear c2
 obtain ⟨y101, hy101⟩ : ∃ y_ : List Int, y_ = (([] : List Int) ++ l0) := ⟨_, rfl⟩
 replace H : ((some (([(-7), (-8)] : List Int) : List Int)).bind fun y104 => (if y101.length + y104.length < 35184372088832 then ((some (y101 ++ y104 : List Int)).bind fun y107 => (if 0 ≤ (l0.length : Int) then (if (l0.length : Int) ≤ (y107.length : Int) then (some (y107.take ((l0.length : Int) : Int).toNat)) else (none)) else (none))) else (none))) = some r := by first | (rw [hy101]; with_reducible exact H) | (have H2_ := (Option.bind_some _ _).symm.trans H; rw [hy101]; with_reducible exact H2_) | (have H2_ := (Option.bind_some _ _).symm.trans H; with_reducible exact H2_) | with_reducible exact H | (rw [hy101]; exact H) | exact H
 have Ny101 := Aside0.mk hy101
 clear hy101
 obtain ⟨y104, hy104⟩ : ∃ y_ : List Int, y_ = (([(-7), (-8)] : List Int)) := ⟨_, rfl⟩
 replace H : (if y101.length + y104.length < 35184372088832 then ((some (y101 ++ y104 : List Int)).bind fun y107 => (if 0 ≤ (l0.length : Int) then (if (l0.length : Int) ≤ (y107.length : Int) then (some (y107.take ((l0.length : Int) : Int).toNat)) else (none)) else (none))) else (none)) = some r := by first | (rw [hy104]; with_reducible exact H) | (have H2_ := (Option.bind_some _ _).symm.trans H; rw [hy104]; with_reducible exact H2_) | (have H2_ := (Option.bind_some _ _).symm.trans H; with_reducible exact H2_) | with_reducible exact H | (rw [hy104]; exact H) | exact H
 have Ny104 := Aside0.mk hy104
 clear hy104
 by_cases c3 : y101.length + y104.length < 35184372088832
 case neg => rw [if_neg c3] at H; exact absurd H (by simp)
 rw [if_pos c3] at H
 have LMc3 := Aside0.mk c3
 clear c3
 obtain ⟨y107, hy107⟩ : ∃ y_ : List Int, y_ = (y101 ++ y104) := ⟨_, rfl⟩
 replace H : (if 0 ≤ (l0.length : Int) then (if (l0.length : Int) ≤ (y107.length : Int) then (some (y107.take ((l0.length : Int) : Int).toNat)) else (none)) else (none)) = some r := by first | (rw [hy107]; with_reducible exact H) | (have H2_ := (Option.bind_some _ _).symm.trans H; rw [hy107]; with_reducible exact H2_) | (have H2_ := (Option.bind_some _ _).symm.trans H; with_reducible exact H2_) | with_reducible exact H | (rw [hy107]; exact H) | exact H
 have Ny107 := Aside0.mk hy107
 clear hy107
 by_cases c4 : 0 ≤ (l0.length : Int)
 case neg => rw [if_neg c4] at H; exact absurd H (by simp)
 rw [if_pos c4] at H
 have c4b0 := eq_true c4
 have c4b1 := decide_eq_true c4
 clear c4
 by_cases c5 : (l0.length : Int) ≤ (y107.length : Int)
 case neg => rw [if_neg c5] at H; exact absurd H (by simp)
 rw [if_pos c5] at H
 have c5b0 := eq_true c5
 have c5b1 := decide_eq_true c5
 clear c5
 obtain ⟨y110, hy110⟩ : ∃ y_ : List Int, y_ = (y107.take ((l0.length : Int) : Int).toNat) := ⟨_, rfl⟩
 replace H : (some y110) = some r := by first | (rw [hy110]; with_reducible exact H) | (have H2_ := (Option.bind_some _ _).symm.trans H; rw [hy110]; with_reducible exact H2_) | (have H2_ := (Option.bind_some _ _).symm.trans H; with_reducible exact H2_) | with_reducible exact H | (rw [hy110]; exact H) | exact H
 have Ny110 := Aside0.mk hy110
 clear hy110
 obtain rfl := Option.some.inj H
 go_enter Try.func4, Try.ntmps4
 go_wp2_with (first | ((with_reducible refine gate_builtin (b := .append) (xs := #[.tmp 7, .tmp 8]) rfl ?_); at_builtin; refine Kd.R_append_rows (Kd.int .i32) (w0 := w) w.heap.size rfl (.tmp 7) (.tmp 8) 22 21 (.int .i32 0) 4 rfl Try.underlying22 info21 rfl (by decide) (by omega) (.slice none 0 0) ([] : List Int) l0 _ _ _ (fun _ => True) (fun _ => False) rfl rfl ?aO ?aR (fun _ _ h => h) (fun _ h => h.elim) ?aF ?aB ?aS ?aL ?_; (case aR => repeat (first | exact HR0.out | (with_reducible refine Kd.C_alloc ?_ _) | (with_reducible refine Kd.C_drewN ?_ _) | (with_reducible refine Kd.C_drew ?_))); (case aB => exact sqB); (case aF => exact (fun _ _ => trivial)); (case aO => exact ((Kd.R_nil _ _ _ _ (fun _ => True)))); (case aS => exact (below_size sqB)); (case aL => have := LMc2.out; omega); intro v102 w6 ho hb hg hat; rw [← Ny101.out] at ho; have n0_ := Aside0.mk (hb); have n1_ := Aside0.mk (ho); clear HB; have HB := n0_; have HO103 := n1_; clear n0_ n1_; clear ho hb hg hat) | ((with_reducible refine gate_dst (N := 11) rfl ?_); refine Kd.R_lit (Kd.int .i32) _ 21 ?hg (N := 11) ?hd (xs := ([(-7), (-8)] : List Int)) (inner := [.int .i32 (-7), .int .i32 (-8)]) (ok := fun _ => True) (okp := fun _ => True) ?hr ?hp (fun _ hk => hk) trivial (Below.refl _ _) (Nat.le_refl _) (by simp) ?_; (case hd => rfl); (case hg => rfl); (case hr => first | (go_simp; done) | (go_simp; rfl)); (case hp => exact (Reps.one (show Kd.M (Kd.int .i32) _ _ _ (-7) [.int .i32 (-7)] from rfl) (Reps.one (show Kd.M (Kd.int .i32) _ _ _ (-8) [.int .i32 (-8)] from rfl) (Reps.none _ _)))); intro v105 w7 ho8 hb hg_ hnew_; clear hg_ hnew_; (first | rw [← Ny104.out] at ho8 | (simp only [Int.reduceToNat] at ho8; rw [← Ny104.out] at ho8)); have n0_ := Aside0.mk (Kd.R_elder' (sqR HO103.out) (Kd.R_base ho8) hb); have n1_ := Aside0.mk (Kd.R_lower (Kd.R_new' ho8 (Kd.R_lt (sqR HO103.out))) (below_size sqB)); have n2_ := Aside0.mk (below_step sqB hb); clear HO103; clear HB; have HO103 := n0_; have HO106 := n1_; have HB := n2_; clear n0_ n1_ n2_; clear hb ho8; obtain ⟨Ao10, co10, eo10⟩ := Kd.R_slice HO106.out; subst eo10) | ((with_reducible refine gate_builtin (b := .append) (xs := #[.tmp 10, .tmp 11]) rfl ?_); at_builtin; refine Kd.R_append_rows (Kd.int .i32) (w0 := w) w.heap.size rfl (.tmp 10) (.tmp 11) 22 21 (.int .i32 0) 4 rfl Try.underlying22 info21 rfl (by decide) (by omega) v102 y101 y104 _ _ _ (fun k_ => some k_ ≠ (.slice Ao10 y104.length co10 : Value).ownBlock) (fun _ => False) rfl rfl ?aO ?aR (fun _ _ h => h) (fun _ h => h.elim) ?aF ?aB ?aS ?aL ?_; (case aR => repeat (first | exact (Kd.R_reads' HO106.out).2.2 | (with_reducible refine Kd.C_alloc ?_ _) | (with_reducible refine Kd.C_drewN ?_ _) | (with_reducible refine Kd.C_drew ?_))); (case aB => exact sqB); (case aF => exact (fun k_ hk => Kd.fresh' (Kd.R_lt (sqR HO106.out)) k_ hk)); (case aO => exact (by (with_reducible repeat (first | apply Kd.R_alloc | apply Kd.R_drewN | apply Kd.R_drew)); exact Kd.R_mono HO103.out (fun _ hk => hk.2))); (case aS => exact (below_size sqB)); (case aL => have := LMc3.out; omega); intro v108 w9 ho hb hg hat; rw [← Ny107.out] at ho; have HFull := Aside0.mk ho; have n0_ := Aside0.mk (Kd.R_after (ok := (fun _ => True)) (sqR HO106.out) hg hat); have n1_ := Aside0.mk (hb); have n2_ := Aside0.mk (ho); clear HO106; clear HB; clear HO103; have HO106 := n0_; have HB := n1_; have HO109 := n2_; clear n0_ n1_ n2_; clear ho hb hg hat; obtain ⟨Ao11, co11, eo11⟩ := Kd.R_slice HO109.out; subst eo11; have q12 : ((l0.length : Int) : Int) ≤ ((y107.length : Int) : Int) := sqD; obtain ⟨i012, hi012, _, hsz12, _⟩ := info_parts info21; have hcut12 := cut_to (P := Try.prog) 22 21 .i64 Try.underlying22 hi012 Ao11 y107.length co11 (l0.length : Int) sqD q12 (Kd.R_reads' HO109.out).2.1; have hr12 := Kd.R_take (m := ((l0.length : Int) : Int).toNat) HO109.out (by omega); have hy12 : y110.length = ((l0.length : Int) : Int).toNat := (by rw [Ny110.out, List.length_take]; omega); rw [← Ny110.out] at hr12; rw [← hy12] at hr12 hcut12; clear hy12 hi012 hsz12 HO109; have HO112 := Aside0.mk hr12; clear hr12; replace q12 := eq_true q12))
 go_ret
 exact ⟨_, sqE', by (with_reducible repeat (first | apply Kd.R_alloc | apply Kd.R_drewN | apply Kd.R_drew)); exact Kd.R_mono HO112.out (fun _ hk => trivial), sqB, by
  have e := Ny101; have e1 := Ny104; have e2 := Ny107; have e3 := Ny110; have hf := HFull.out; rw [e2.out, e.out, e1.out, List.nil_append] at hf; rw [e3.out, e2.out, e.out, e1.out]; simp only [List.nil_append, Int.toNat_natCast, List.take_left']; (try rw [List.take_left' rfl]); exact Rm.room_of_R hf (by simp) _ (by first | rfl | simp)⟩
def scalar_Split.l0 : Nat → List Int → List (List Int) → Int → List Int → Int → Int → Option ((List (List Int)))
 | 0, _, _, _, _, _, _ => none
 | k + 1, x0, x3, x4, x7, x8, x9 => if x9 < x8 then (if 0 ≤ x9 then (if x9 < (x7.length : Int) then (if (rd x7 x9) = 46 then (if 0 ≤ x4 then (if x4 ≤ x9 then (if x9 ≤ (x0.length : Int) then (if ([] : List Int).length + ((x0.take (x9 : Int).toNat).drop (x4 : Int).toNat).length < 35184372088832 then (if x3.length < 5864062014805 then (scalar_Split.l0 k x0 (x3 ++ [(([] : List Int) ++ ((x0.take (x9 : Int).toNat).drop (x4 : Int).toNat))]) (wrap64 (x9 + 1)) x7 x8 (wrap64 (x9 + 1))) else (none)) else (none)) else (none)) else (none)) else (none)) else (scalar_Split.l0 k x0 x3 x4 x7 x8 (wrap64 (x9 + 1)))) else (none)) else (none)) else (if 0 ≤ x4 then (if x4 ≤ (x0.length : Int) then (if ([] : List Int).length + (x0.drop (x4 : Int).toNat).length < 35184372088832 then (if x3.length < 5864062014805 then (some (x3 ++ [(([] : List Int) ++ (x0.drop (x4 : Int).toNat))])) else (none)) else (none)) else (none)) else (none))
def scalar_Split.f (k : Nat) (l0 : List Int) : Option ((List (List Int))) := scalar_Split.l0 k l0 ([] : List (List Int)) 0 l0 (l0.length : Int) 0
theorem scalar_Split.mono_l : ∀ k, (∀ y0 y1 y2 y3 y4 y5, LeO (scalar_Split.l0 k y0 y1 y2 y3 y4 y5) (scalar_Split.l0 (k + 1) y0 y1 y2 y3 y4 y5))
 | 0 => fun _ _ _ _ _ _ r h => by simp [scalar_Split.l0] at h
 | k + 1 => by
  have ih0 := scalar_Split.mono_l k
  intro y0 y1 y2 y3 y4 y5
  unfold scalar_Split.l0
  repeat' first | (with_reducible first | apply ih0 | apply LeO.refl | apply LeO.none | refine LeO.ite ?_ ?_ | refine LeO.bind ?_ (fun _ => ?_)) | apply LeO.none | refine LeO.ite ?_ ?_ | refine LeO.bind ?_ (fun _ => ?_)
theorem scalar_Split.mono : ∀ a0 k, LeO (scalar_Split.f k a0) (scalar_Split.f (k + 1) a0) := by
 intro a0 k
 have ih0 := scalar_Split.mono_l k
 unfold scalar_Split.f
 repeat' first | (with_reducible first | apply ih0 | apply LeO.refl | apply LeO.none | refine LeO.ite ?_ ?_ | refine LeO.bind ?_ (fun _ => ?_)) | apply LeO.none | refine LeO.ite ?_ ?_ | refine LeO.bind ?_ (fun _ => ?_)
theorem scalar_Split.calls (k : Nat) (A0 : Option Addr) (c0 : Nat) (l0 : List Int) (r : List (List Int)) (w : World) (hr0 : Kd.C (Kd.int .i32) w A0 l0.length l0) (hc0 : l0.length ≤ c0) (h : scalar_Split.f k l0 = some r) :
  Calls Try.prog 5 #[.slice A0 l0.length c0] w fun e w' => ∃ v0_ : Value, e = .returned (v0_) ∧ Kd.S (Kd.slice 21 (Kd.int .i32)) 22 w' w.heap.size (fun _ => True) v0_ r ∧ Below w.heap.size w w' := by
 have HR0 := Aside0.mk hr0
 have HC0 := Aside0.mk hc0
 clear hr0 hc0
 have HB := Aside0.mk (Below.refl w.heap.size w)
 have H : (scalar_Split.l0 k l0 ([] : List (List Int)) 0 l0 (l0.length : Int) 0) = some r := h
 clear h
 have H' := Aside0.mk H
 clear H
 go_enter Try.func5, Try.ntmps5
 go_wp2
 go_loopg [3, 4, 9] k (fun kq v3 v4 v9 w' => ∃ (x3_1 : List (List Int)) (x4_1 : Int) (x9_1 : Int), v4 = .int .i64 x4_1 ∧ v9 = .int .i64 x9_1 ∧ Aside0 (scalar_Split.l0 kq l0 x3_1 x4_1 l0 (l0.length : Int) x9_1 = some r) ∧ Aside0 (kq ≤ k) ∧ Aside0 (Kd.S (Kd.slice 21 (Kd.int .i32)) 22 w' w.heap.size (fun _ => True) v3 x3_1) ∧ Aside0 (Below w.heap.size w w'))
 case atStart => exact ⟨(([] : List (List Int))), (0), (0), sqE, sqE, H', ⟨Nat.le_refl _⟩, ⟨by first | exact Kd.S_nil _ _ _ _ _ | exact Kd.N_nil _ _ _ _ _ | exact Kd.V_nil _ _ _ _ _ | exact Kd.Q_nil _ _ _ _ _ | exact Kd.R_nil _ _ _ _ _⟩, ⟨sqB⟩⟩
 case round =>
  clear H'
  obtain ⟨x3_1, x4_1, x9_1, rfl, rfl, HA, HK1, HO_3, HB⟩ := hrel
  cases gk with
  | zero => exact absurd HA.out (by simp [scalar_Split.l0])
  | succ k1 =>
   have H := HA.out
   clear HA
   simp only [scalar_Split.l0] at H
   by_cases c2 : x9_1 < (l0.length : Int)
   case neg =>
    rw [if_neg c2] at H
    have c2b0 := decide_eq_false c2
    clear c2
    by_cases c15 : 0 ≤ x4_1
    case neg => rw [if_neg c15] at H; exact absurd H (by simp)
    rw [if_pos c15] at H
    have c15b0 := eq_true c15
    have c15b1 := decide_eq_true c15
    clear c15
    by_cases c16 : x4_1 ≤ (l0.length : Int)
    case neg => rw [if_neg c16] at H; exact absurd H (by simp)
    rw [if_pos c16] at H
    have c16b0 := eq_true c16
    have c16b1 := decide_eq_true c16
    clear c16
    by_cases c17 : ([] : List Int).length + (l0.drop (x4_1 : Int).toNat).length < 35184372088832
    case neg => rw [if_neg c17] at H; exact absurd H (by simp)
    rw [if_pos c17] at H
    have LMc17 := Aside0.mk c17
    clear c17
    obtain ⟨y122, hy122⟩ : ∃ y_ : List Int, y_ = (([] : List Int) ++ (l0.drop (x4_1 : Int).toNat)) := ⟨_, rfl⟩
    replace H : (if x3_1.length < 5864062014805 then (some (x3_1 ++ [y122])) else (none)) = some r := by first | (rw [hy122]; with_reducible exact H) | (have H2_ := (Option.bind_some _ _).symm.trans H; rw [hy122]; with_reducible exact H2_) | (have H2_ := (Option.bind_some _ _).symm.trans H; with_reducible exact H2_) | with_reducible exact H | (rw [hy122]; exact H) | exact H
    have Ny122 := Aside0.mk hy122
    clear hy122
    by_cases c18 : x3_1.length < 5864062014805
    case neg => rw [if_neg c18] at H; exact absurd H (by simp)
    rw [if_pos c18] at H
    have LMc18 := Aside0.mk c18
    clear c18
    obtain ⟨y125, hy125⟩ : ∃ y_ : List (List Int), y_ = (x3_1 ++ [y122]) := ⟨_, rfl⟩
    replace H : (some y125) = some r := by first | (rw [hy125]; with_reducible exact H) | (have H2_ := (Option.bind_some _ _).symm.trans H; rw [hy125]; with_reducible exact H2_) | (have H2_ := (Option.bind_some _ _).symm.trans H; with_reducible exact H2_) | with_reducible exact H | (rw [hy125]; exact H) | exact H
    have Ny125 := Aside0.mk hy125
    clear hy125
    obtain rfl := Option.some.inj H
    obtain ⟨i019, hi019, _, hsz19, _⟩ := info_parts info21
    obtain ⟨A19, hcut19, hA19, hC19⟩ := print_drop_of (P := Try.prog) (Value.int .i32) 0 22 21 .i64 Try.underlying22 hi019 hsz19 A0 c0 l0 x4_1 sqD sqD HC0.out
    have HR121 := Aside0.mk (Kd.C_of_reads (h1 := fun _ => rfl) (hA19 _ (Kd.reads_of_C HR0.out)))
    have HC121 := Aside0.mk hC19
    clear hA19 hC19 hi019 hsz19
    go_wp2_with (first | ((with_reducible refine gate_builtin (b := .append) (xs := #[.const (.slice none 0 0), .tmp 30]) rfl ?_); at_builtin; refine Kd.R_append_rows (Kd.int .i32) (w0 := w) w.heap.size rfl (.const (.slice none 0 0)) (.tmp 30) 22 21 (.int .i32 0) 4 rfl Try.underlying22 info21 rfl (by decide) (by omega) (.slice none 0 0) ([] : List Int) (l0.drop (x4_1 : Int).toNat) _ _ _ (fun _ => True) (fun _ => False) rfl rfl ?aO ?aR (fun _ _ h => h) (fun _ h => h.elim) ?aF ?aB ?aS ?aL ?_; (case aR => first | (rw [← show (l0.drop (x4_1 : Int).toNat).length = (l0.length - x4_1.toNat) from List.length_drop]; repeat (first | exact (Kd.C_below HR121.out HB.out) | (with_reducible refine Kd.C_alloc ?_ _) | (with_reducible refine Kd.C_drewN ?_ _) | (with_reducible refine Kd.C_drew ?_))) | (repeat (first | exact (Kd.C_below HR121.out HB.out) | (with_reducible refine Kd.C_alloc ?_ _) | (with_reducible refine Kd.C_drewN ?_ _) | (with_reducible refine Kd.C_drew ?_)))); (case aB => exact sqB); (case aF => exact (fun _ _ => trivial)); (case aO => exact ((Kd.R_nil _ _ _ _ (fun _ => True)))); (case aS => exact (below_size sqB)); (case aL => have := LMc17.out; have hlx_ := (show (l0.drop (x4_1 : Int).toNat).length = (l0.length - x4_1.toNat) from List.length_drop); omega); intro v123 w20 ho hb hg hat; rw [← Ny122.out] at ho; have n0_ := Aside0.mk (Kd.S_after (Kd.S_apart_nil (by (with_reducible repeat (first | apply Kd.S_alloc | apply Kd.S_drewN | apply Kd.S_drew)); exact HO_3.out)) hg hat); have n1_ := Aside0.mk (hb); have n2_ := Aside0.mk (ho); clear HO_3; clear HB; have HO_3 := n0_; have HB := n1_; have HO124 := n2_; clear n0_ n1_ n2_; clear ho hb hg hat; obtain ⟨Ao22, co22, eo22⟩ := Kd.R_slice HO124.out; subst eo22) | ((with_reducible refine gate_builtin (b := .append) (xs := #[.tmp 27, .tmp 32]) rfl ?_); at_builtin; refine Kd.S_append (Kd.slice 21 (Kd.int .i32)) (w0 := w) w.heap.size rfl (.tmp 27) (.tmp 32) 24 22 (.slice none 0 0) 24 rfl Try.underlying24 info22 rfl (by decide) (by omega) u3 x3_1 y122 [.slice Ao22 y122.length co22] (fun _ => True) (fun k_ => some k_ = (.slice Ao22 y122.length co22 : Value).ownBlock) rfl rfl ?aP (fun k_ hk_ => ((Kd.R_mono (ok' := fun k_ => ((fun _ => True)) k_ ∧ some k_ ≠ (u3 : Value).ownBlock) (Kd.R_apart' (HO124.out) (Kd.S_typed HO_3.out) (by decide)) (fun k_ hk => ⟨trivial, hk.2⟩))).1 k_ hk_.symm) ?aF ?aO ?aB ?aS ?aL ?_; (case aP => exact Kd.M_row (Kd.R_mono (Kd.R_tight rfl (Kd.R_mono (ok' := fun k_ => ((fun _ => True)) k_ ∧ some k_ ≠ (u3 : Value).ownBlock) (Kd.R_apart' (HO124.out) (Kd.S_typed HO_3.out) (by decide)) (fun k_ hk => ⟨trivial, hk.2⟩))) (fun _ h_ => h_))); (case aB => exact sqB); (case aF => exact (fun _ _ => trivial)); (case aO => exact (by (with_reducible repeat (first | apply Kd.S_alloc | apply Kd.S_drewN | apply Kd.S_drew)); exact Kd.S_mono HO_3.out (fun k_ hk => ⟨trivial, fun e_ => hk.2 e_⟩))); (case aS => exact (below_size sqB)); (case aL => have := LMc18.out; omega); intro v126 w21 ho hb hg hat; rw [← Ny125.out] at ho; have n0_ := Aside0.mk (hb); have n1_ := Aside0.mk (ho); clear HB; clear HO_3; clear HO124; have HB := n0_; have HO127 := n1_; clear n0_ n1_; clear ho hb hg hat))
    go_ret
    exact ⟨_, sqE', by (with_reducible repeat (first | apply Kd.S_alloc | apply Kd.S_drewN | apply Kd.S_drew)); exact HO127.out, sqB⟩
   rw [if_pos c2] at H
   have c2b0 := decide_eq_true c2
   clear c2
   by_cases c3 : 0 ≤ x9_1
   case neg => rw [if_neg c3] at H; exact absurd H (by simp)
   rw [if_pos c3] at H
   have c3b0 := decide_eq_true c3
   clear c3
   by_cases c4 : x9_1 < (l0.length : Int)
   case neg => rw [if_neg c4] at H; exact absurd H (by simp)
   rw [if_pos c4] at H
   have c4b0 := decide_eq_true c4
   clear c4
   by_cases c5 : (rd l0 x9_1) = 46
   case neg =>
    rw [if_neg c5] at H
    have c5b0 := beq_eq_false_iff_ne.mpr c5
    have c5b1 := bne_iff_ne.mpr c5
    have H' := Aside0.mk H
    clear H
    have p113 : 0 ≤ (x9_1 : Int) := sqD
    have q113 : x9_1 < (l0.length : Int) := sqD
    obtain ⟨ad113, e113, hx113_0⟩ := Kd.at_int HR0.out x9_1 p113 q113
    cases e113
    replace hx113_0 := (HB.out.cell (World.block_lt_of_cell? w _ hx113_0)).trans hx113_0
    replace p113 := eq_true p113
    replace q113 := eq_true q113
    go_wp2
    go_roundg k1
    case measure => have := HK1.out; omega
    case rel => exact ⟨(x3_1), (x4_1), (wrap64 (x9_1 + 1)), sqE, sqE, H', ⟨by have := HK1.out; omega⟩, ⟨by (with_reducible repeat (first | apply Kd.S_alloc | apply Kd.S_drewN | apply Kd.S_drew)); exact HO_3.out⟩, ⟨sqB⟩⟩
   rw [if_pos c5] at H
   have c5b0 := beq_iff_eq.mpr c5
   have c5b1 := bne_eq_false_iff_eq.mpr c5
   clear c5
   by_cases c6 : 0 ≤ x4_1
   case neg => rw [if_neg c6] at H; exact absurd H (by simp)
   rw [if_pos c6] at H
   have c6b0 := eq_true c6
   have c6b1 := decide_eq_true c6
   clear c6
   by_cases c7 : x4_1 ≤ x9_1
   case neg => rw [if_neg c7] at H; exact absurd H (by simp)
   rw [if_pos c7] at H
   have c7b0 := eq_true c7
   have c7b1 := decide_eq_true c7
   clear c7
   by_cases c8 : x9_1 ≤ (l0.length : Int)
   case neg => rw [if_neg c8] at H; exact absurd H (by simp)
   rw [if_pos c8] at H
   have c8b0 := eq_true c8
   have c8b1 := decide_eq_true c8
   clear c8
   by_cases c9 : ([] : List Int).length + ((l0.take (x9_1 : Int).toNat).drop (x4_1 : Int).toNat).length < 35184372088832
   case neg => rw [if_neg c9] at H; exact absurd H (by simp)
   rw [if_pos c9] at H
   have LMc9 := Aside0.mk c9
   clear c9
   obtain ⟨y115, hy115⟩ : ∃ y_ : List Int, y_ = (([] : List Int) ++ ((l0.take (x9_1 : Int).toNat).drop (x4_1 : Int).toNat)) := ⟨_, rfl⟩
   replace H : (if x3_1.length < 5864062014805 then (scalar_Split.l0 k1 l0 (x3_1 ++ [y115]) (wrap64 (x9_1 + 1)) l0 (l0.length : Int) (wrap64 (x9_1 + 1))) else (none)) = some r := by first | (rw [hy115]; with_reducible exact H) | (have H2_ := (Option.bind_some _ _).symm.trans H; rw [hy115]; with_reducible exact H2_) | (have H2_ := (Option.bind_some _ _).symm.trans H; with_reducible exact H2_) | with_reducible exact H | (rw [hy115]; exact H) | exact H
   have Ny115 := Aside0.mk hy115
   clear hy115
   by_cases c10 : x3_1.length < 5864062014805
   case neg => rw [if_neg c10] at H; exact absurd H (by simp)
   rw [if_pos c10] at H
   have LMc10 := Aside0.mk c10
   clear c10
   obtain ⟨y118, hy118⟩ : ∃ y_ : List (List Int), y_ = (x3_1 ++ [y115]) := ⟨_, rfl⟩
   replace H : (scalar_Split.l0 k1 l0 y118 (wrap64 (x9_1 + 1)) l0 (l0.length : Int) (wrap64 (x9_1 + 1))) = some r := by first | (rw [hy118]; with_reducible exact H) | (have H2_ := (Option.bind_some _ _).symm.trans H; rw [hy118]; with_reducible exact H2_) | (have H2_ := (Option.bind_some _ _).symm.trans H; with_reducible exact H2_) | with_reducible exact H | (rw [hy118]; exact H) | exact H
   have Ny118 := Aside0.mk hy118
   clear hy118
   have H' := Aside0.mk H
   clear H
   have p113 : 0 ≤ (x9_1 : Int) := sqD
   have q113 : x9_1 < (l0.length : Int) := sqD
   obtain ⟨ad113, e113, hx113_0⟩ := Kd.at_int HR0.out x9_1 p113 q113
   cases e113
   replace hx113_0 := (HB.out.cell (World.block_lt_of_cell? w _ hx113_0)).trans hx113_0
   replace p113 := eq_true p113
   replace q113 := eq_true q113
   obtain ⟨i011, hi011, _, hsz11, _⟩ := info_parts info21
   obtain ⟨A11, hcut11, hA11, hC11⟩ := print_mid_of (P := Try.prog) (Value.int .i32) 0 22 21 .i64 .i64 Try.underlying22 hi011 hsz11 (some ad113) c0 l0 x4_1 x9_1 sqD (by first | omega | exact sqD) sqD HC0.out
   have HR114 := Aside0.mk (Kd.C_of_reads (h1 := fun _ => rfl) (hA11 _ (Kd.reads_of_C HR0.out)))
   have HC114 := Aside0.mk hC11
   clear hA11 hC11 hi011 hsz11
   go_wp2_with (first | ((with_reducible refine gate_builtin (b := .append) (xs := #[.const (.slice none 0 0), .tmp 20]) rfl ?_); at_builtin; refine Kd.R_append_rows (Kd.int .i32) (w0 := w) w.heap.size rfl (.const (.slice none 0 0)) (.tmp 20) 22 21 (.int .i32 0) 4 rfl Try.underlying22 info21 rfl (by decide) (by omega) (.slice none 0 0) ([] : List Int) ((l0.take (x9_1 : Int).toNat).drop (x4_1 : Int).toNat) _ _ _ (fun _ => True) (fun _ => False) rfl rfl ?aO ?aR (fun _ _ h => h) (fun _ h => h.elim) ?aF ?aB ?aS ?aL ?_; (case aR => first | (rw [← show ((l0.take (x9_1 : Int).toNat).drop (x4_1 : Int).toNat).length = (x9_1.toNat - x4_1.toNat) from (by rw [List.length_drop, List.length_take]; have h_ : (x9_1 : Int) ≤ (l0.length : Int) := sqD; omega)]; repeat (first | exact (Kd.C_below HR114.out HB.out) | (with_reducible refine Kd.C_alloc ?_ _) | (with_reducible refine Kd.C_drewN ?_ _) | (with_reducible refine Kd.C_drew ?_))) | (repeat (first | exact (Kd.C_below HR114.out HB.out) | (with_reducible refine Kd.C_alloc ?_ _) | (with_reducible refine Kd.C_drewN ?_ _) | (with_reducible refine Kd.C_drew ?_)))); (case aB => exact sqB); (case aF => exact (fun _ _ => trivial)); (case aO => exact ((Kd.R_nil _ _ _ _ (fun _ => True)))); (case aS => exact (below_size sqB)); (case aL => have := LMc9.out; have hlx_ := (show ((l0.take (x9_1 : Int).toNat).drop (x4_1 : Int).toNat).length = (x9_1.toNat - x4_1.toNat) from (by rw [List.length_drop, List.length_take]; have h_ : (x9_1 : Int) ≤ (l0.length : Int) := sqD; omega)); omega); intro v116 w12 ho hb hg hat; rw [← Ny115.out] at ho; have n0_ := Aside0.mk (Kd.S_after (Kd.S_apart_nil (by (with_reducible repeat (first | apply Kd.S_alloc | apply Kd.S_drewN | apply Kd.S_drew)); exact HO_3.out)) hg hat); have n1_ := Aside0.mk (hb); have n2_ := Aside0.mk (ho); clear HO_3; clear HB; have HO_3 := n0_; have HB := n1_; have HO117 := n2_; clear n0_ n1_ n2_; clear ho hb hg hat; obtain ⟨Ao14, co14, eo14⟩ := Kd.R_slice HO117.out; subst eo14) | ((with_reducible refine gate_builtin (b := .append) (xs := #[.tmp 16, .tmp 22]) rfl ?_); at_builtin; refine Kd.S_append (Kd.slice 21 (Kd.int .i32)) (w0 := w) w.heap.size rfl (.tmp 16) (.tmp 22) 24 22 (.slice none 0 0) 24 rfl Try.underlying24 info22 rfl (by decide) (by omega) u3 x3_1 y115 [.slice Ao14 y115.length co14] (fun _ => True) (fun k_ => some k_ = (.slice Ao14 y115.length co14 : Value).ownBlock) rfl rfl ?aP (fun k_ hk_ => ((Kd.R_mono (ok' := fun k_ => ((fun _ => True)) k_ ∧ some k_ ≠ (u3 : Value).ownBlock) (Kd.R_apart' (HO117.out) (Kd.S_typed HO_3.out) (by decide)) (fun k_ hk => ⟨trivial, hk.2⟩))).1 k_ hk_.symm) ?aF ?aO ?aB ?aS ?aL ?_; (case aP => exact Kd.M_row (Kd.R_mono (Kd.R_tight rfl (Kd.R_mono (ok' := fun k_ => ((fun _ => True)) k_ ∧ some k_ ≠ (u3 : Value).ownBlock) (Kd.R_apart' (HO117.out) (Kd.S_typed HO_3.out) (by decide)) (fun k_ hk => ⟨trivial, hk.2⟩))) (fun _ h_ => h_))); (case aB => exact sqB); (case aF => exact (fun _ _ => trivial)); (case aO => exact (by (with_reducible repeat (first | apply Kd.S_alloc | apply Kd.S_drewN | apply Kd.S_drew)); exact Kd.S_mono HO_3.out (fun k_ hk => ⟨trivial, fun e_ => hk.2 e_⟩))); (case aS => exact (below_size sqB)); (case aL => have := LMc10.out; omega); intro v119 w13 ho hb hg hat; rw [← Ny118.out] at ho; have n0_ := Aside0.mk (hb); have n1_ := Aside0.mk (ho); clear HB; clear HO_3; clear HO117; have HB := n0_; have HO120 := n1_; clear n0_ n1_; clear ho hb hg hat))
   go_roundg k1
   case measure => have := HK1.out; omega
   case rel => exact ⟨(y118), (wrap64 (x9_1 + 1)), (wrap64 (x9_1 + 1)), sqE, sqE, H', ⟨by have := HK1.out; omega⟩, ⟨by (with_reducible repeat (first | apply Kd.S_alloc | apply Kd.S_drewN | apply Kd.S_drew)); exact HO120.out⟩, ⟨sqB⟩⟩
def endonymref3_Split.l0 : Nat → List Int → List (List Int) → List Int → Int → Option ((List (List Int)))
 | 0, _, _, _, _ => none
 | k + 1, x0, x3, x4, x5 => if x5 < (x0.length : Int) then (if 0 ≤ x5 then (if (rd x0 x5) = 46 then (if x3.length < 5864062014805 then (endonymref3_Split.l0 k x0 (x3 ++ [x4]) ([] : List Int) (wrap64 (x5 + 1))) else (none)) else (if x4.length < 35184372088832 then (endonymref3_Split.l0 k x0 x3 (x4 ++ [rd x0 x5]) (wrap64 (x5 + 1))) else (none))) else (none)) else (if x3.length < 5864062014805 then (some (x3 ++ [x4])) else (none))
def endonymref3_Split.f (k : Nat) (l0 : List Int) : Option ((List (List Int))) := endonymref3_Split.l0 k l0 ([] : List (List Int)) ([] : List Int) 0
theorem endonymref3_Split.mono_l : ∀ k, (∀ y0 y1 y2 y3, LeO (endonymref3_Split.l0 k y0 y1 y2 y3) (endonymref3_Split.l0 (k + 1) y0 y1 y2 y3))
 | 0 => fun _ _ _ _ r h => by simp [endonymref3_Split.l0] at h
 | k + 1 => by
  have ih0 := endonymref3_Split.mono_l k
  intro y0 y1 y2 y3
  unfold endonymref3_Split.l0
  repeat' first | (with_reducible first | apply ih0 | apply LeO.refl | apply LeO.none | refine LeO.ite ?_ ?_ | refine LeO.bind ?_ (fun _ => ?_)) | apply LeO.none | refine LeO.ite ?_ ?_ | refine LeO.bind ?_ (fun _ => ?_)
theorem endonymref3_Split.mono : ∀ a0 k, LeO (endonymref3_Split.f k a0) (endonymref3_Split.f (k + 1) a0) := by
 intro a0 k
 have ih0 := endonymref3_Split.mono_l k
 unfold endonymref3_Split.f
 repeat' first | (with_reducible first | apply ih0 | apply LeO.refl | apply LeO.none | refine LeO.ite ?_ ?_ | refine LeO.bind ?_ (fun _ => ?_)) | apply LeO.none | refine LeO.ite ?_ ?_ | refine LeO.bind ?_ (fun _ => ?_)
theorem endonymref3_Split.calls (k : Nat) (A0 : Option Addr) (c0 : Nat) (l0 : List Int) (r : List (List Int)) (w : World) (hr0 : Kd.C (Kd.int .i32) w A0 l0.length l0) (hc0 : l0.length ≤ c0) (h : endonymref3_Split.f k l0 = some r) :
  Calls Try.prog 6 #[.slice A0 l0.length c0] w fun e w' => ∃ v0_ : Value, e = .returned (v0_) ∧ Kd.S (Kd.slice 21 (Kd.int .i32)) 22 w' w.heap.size (fun _ => True) v0_ r ∧ Below w.heap.size w w' := by
 have HR0 := Aside0.mk hr0
 have HC0 := Aside0.mk hc0
 clear hr0 hc0
 have HB := Aside0.mk (Below.refl w.heap.size w)
 have H : (endonymref3_Split.l0 k l0 ([] : List (List Int)) ([] : List Int) 0) = some r := h
 clear h
 have H' := Aside0.mk H
 clear H
 go_enter Try.func6, Try.ntmps6
 go_wp2
 go_loopg [3, 4, 5] k (fun kq v3 v4 v5 w' => ∃ (x3_1 : List (List Int)) (x4_1 : List Int) (x5_1 : Int), v5 = .int .i64 x5_1 ∧ Aside0 (endonymref3_Split.l0 kq l0 x3_1 x4_1 x5_1 = some r) ∧ Aside0 (kq ≤ k) ∧ Aside0 (Kd.S (Kd.slice 21 (Kd.int .i32)) 22 w' w.heap.size (fun k_ => some k_ ≠ (v4 : Value).ownBlock) v3 x3_1) ∧ Aside0 (Kd.R (Kd.int .i32) 21 w' w.heap.size (fun _ => True) v4 x4_1) ∧ Aside0 (Below w.heap.size w w'))
 case atStart => exact ⟨(([] : List (List Int))), (([] : List Int)), (0), sqE, H', ⟨Nat.le_refl _⟩, ⟨by first | exact Kd.S_nil _ _ _ _ _ | exact Kd.N_nil _ _ _ _ _ | exact Kd.V_nil _ _ _ _ _ | exact Kd.Q_nil _ _ _ _ _ | exact Kd.R_nil _ _ _ _ _⟩, ⟨by first | exact Kd.R_nil _ _ _ _ _ | exact Kd.N_nil _ _ _ _ _ | exact Kd.V_nil _ _ _ _ _ | exact Kd.Q_nil _ _ _ _ _ | exact Kd.S_nil _ _ _ _ _⟩, ⟨sqB⟩⟩
 case round =>
  clear H'
  obtain ⟨x3_1, x4_1, x5_1, rfl, HA, HK1, HO_3, HO_4, HB⟩ := hrel
  cases gk with
  | zero => exact absurd HA.out (by simp [endonymref3_Split.l0])
  | succ k1 =>
   have H := HA.out
   clear HA
   simp only [endonymref3_Split.l0] at H
   by_cases c2 : x5_1 < (l0.length : Int)
   case neg =>
    rw [if_neg c2] at H
    have c2b0 := decide_eq_false c2
    clear c2
    by_cases c10 : x3_1.length < 5864062014805
    case neg => rw [if_neg c10] at H; exact absurd H (by simp)
    rw [if_pos c10] at H
    have LMc10 := Aside0.mk c10
    clear c10
    obtain ⟨y136, hy136⟩ : ∃ y_ : List (List Int), y_ = (x3_1 ++ [x4_1]) := ⟨_, rfl⟩
    replace H : (some y136) = some r := by first | (rw [hy136]; with_reducible exact H) | (have H2_ := (Option.bind_some _ _).symm.trans H; rw [hy136]; with_reducible exact H2_) | (have H2_ := (Option.bind_some _ _).symm.trans H; with_reducible exact H2_) | with_reducible exact H | (rw [hy136]; exact H) | exact H
    have Ny136 := Aside0.mk hy136
    clear hy136
    obtain rfl := Option.some.inj H
    obtain ⟨Ao12, co12, eo12⟩ := Kd.R_slice HO_4.out
    subst eo12
    go_wp2_with (first | ((with_reducible refine gate_builtin (b := .append) (xs := #[.tmp 28, .tmp 30]) rfl ?_); at_builtin; refine Kd.S_append (Kd.slice 21 (Kd.int .i32)) (w0 := w) w.heap.size rfl (.tmp 28) (.tmp 30) 24 22 (.slice none 0 0) 24 rfl Try.underlying24 info22 rfl (by decide) (by omega) u3 x3_1 x4_1 [.slice Ao12 x4_1.length co12] (fun _ => True) (fun k_ => some k_ = (.slice Ao12 x4_1.length co12 : Value).ownBlock) rfl rfl ?aP (fun k_ hk_ => ((Kd.R_mono (ok' := fun k_ => ((fun _ => True)) k_ ∧ some k_ ≠ (u3 : Value).ownBlock) (Kd.R_apart' (HO_4.out) (Kd.S_typed HO_3.out) (by decide)) (fun k_ hk => ⟨trivial, hk.2⟩))).1 k_ hk_.symm) ?aF ?aO ?aB ?aS ?aL ?_; (case aP => exact Kd.M_row (Kd.R_mono (Kd.R_tight rfl (Kd.R_mono (ok' := fun k_ => ((fun _ => True)) k_ ∧ some k_ ≠ (u3 : Value).ownBlock) (Kd.R_apart' (HO_4.out) (Kd.S_typed HO_3.out) (by decide)) (fun k_ hk => ⟨trivial, hk.2⟩))) (fun _ h_ => h_))); (case aB => exact sqB); (case aF => exact (fun _ _ => trivial)); (case aO => exact (by (with_reducible repeat (first | apply Kd.S_alloc | apply Kd.S_drewN | apply Kd.S_drew)); exact Kd.S_mono HO_3.out (fun k_ hk => ⟨trivial, fun e_ => hk e_⟩))); (case aS => exact (below_size sqB)); (case aL => have := LMc10.out; omega); intro v137 w11 ho hb hg hat; rw [← Ny136.out] at ho; have n0_ := Aside0.mk (hb); have n1_ := Aside0.mk (ho); clear HB; clear HO_3; clear HO_4; have HB := n0_; have HO138 := n1_; clear n0_ n1_; clear ho hb hg hat))
    go_ret
    exact ⟨_, sqE', by (with_reducible repeat (first | apply Kd.S_alloc | apply Kd.S_drewN | apply Kd.S_drew)); exact HO138.out, sqB⟩
   rw [if_pos c2] at H
   have c2b0 := decide_eq_true c2
   clear c2
   by_cases c3 : 0 ≤ x5_1
   case neg => rw [if_neg c3] at H; exact absurd H (by simp)
   rw [if_pos c3] at H
   have c3b0 := decide_eq_true c3
   clear c3
   by_cases c4 : (rd l0 x5_1) = 46
   ·rw [if_pos c4] at H
    have c4b0 := beq_iff_eq.mpr c4
    have c4b1 := bne_eq_false_iff_eq.mpr c4
    clear c4
    by_cases c5 : x3_1.length < 5864062014805
    case neg => rw [if_neg c5] at H; exact absurd H (by simp)
    rw [if_pos c5] at H
    have LMc5 := Aside0.mk c5
    clear c5
    obtain ⟨y129, hy129⟩ : ∃ y_ : List (List Int), y_ = (x3_1 ++ [x4_1]) := ⟨_, rfl⟩
    replace H : (endonymref3_Split.l0 k1 l0 y129 ([] : List Int) (wrap64 (x5_1 + 1))) = some r := by first | (rw [hy129]; with_reducible exact H) | (have H2_ := (Option.bind_some _ _).symm.trans H; rw [hy129]; with_reducible exact H2_) | (have H2_ := (Option.bind_some _ _).symm.trans H; with_reducible exact H2_) | with_reducible exact H | (rw [hy129]; exact H) | exact H
    have Ny129 := Aside0.mk hy129
    clear hy129
    have H' := Aside0.mk H
    clear H
    have p128 : 0 ≤ (x5_1 : Int) := sqD
    have q128 : x5_1 < (l0.length : Int) := sqD
    obtain ⟨ad128, e128, hx128_0⟩ := Kd.at_int HR0.out x5_1 p128 q128
    cases e128
    replace hx128_0 := (HB.out.cell (World.block_lt_of_cell? w _ hx128_0)).trans hx128_0
    replace p128 := eq_true p128
    replace q128 := eq_true q128
    obtain ⟨Ao7, co7, eo7⟩ := Kd.R_slice HO_4.out
    subst eo7
    go_wp2_with (first | ((with_reducible refine gate_builtin (b := .append) (xs := #[.tmp 17, .tmp 19]) rfl ?_); at_builtin; refine Kd.S_append (Kd.slice 21 (Kd.int .i32)) (w0 := w) w.heap.size rfl (.tmp 17) (.tmp 19) 24 22 (.slice none 0 0) 24 rfl Try.underlying24 info22 rfl (by decide) (by omega) u3 x3_1 x4_1 [.slice Ao7 x4_1.length co7] (fun _ => True) (fun k_ => some k_ = (.slice Ao7 x4_1.length co7 : Value).ownBlock) rfl rfl ?aP (fun k_ hk_ => ((Kd.R_mono (ok' := fun k_ => ((fun _ => True)) k_ ∧ some k_ ≠ (u3 : Value).ownBlock) (Kd.R_apart' (HO_4.out) (Kd.S_typed HO_3.out) (by decide)) (fun k_ hk => ⟨trivial, hk.2⟩))).1 k_ hk_.symm) ?aF ?aO ?aB ?aS ?aL ?_; (case aP => exact Kd.M_row (Kd.R_mono (Kd.R_tight rfl (Kd.R_mono (ok' := fun k_ => ((fun _ => True)) k_ ∧ some k_ ≠ (u3 : Value).ownBlock) (Kd.R_apart' (HO_4.out) (Kd.S_typed HO_3.out) (by decide)) (fun k_ hk => ⟨trivial, hk.2⟩))) (fun _ h_ => h_))); (case aB => exact sqB); (case aF => exact (fun _ _ => trivial)); (case aO => exact (by (with_reducible repeat (first | apply Kd.S_alloc | apply Kd.S_drewN | apply Kd.S_drew)); exact Kd.S_mono HO_3.out (fun k_ hk => ⟨trivial, fun e_ => hk e_⟩))); (case aS => exact (below_size sqB)); (case aL => have := LMc5.out; omega); intro v130 w6 ho hb hg hat; rw [← Ny129.out] at ho; have n0_ := Aside0.mk (hb); have n1_ := Aside0.mk (ho); clear HB; clear HO_3; clear HO_4; have HB := n0_; have HO131 := n1_; clear n0_ n1_; clear ho hb hg hat))
    go_roundg k1
    case measure => have := HK1.out; omega
    case rel => exact ⟨(y129), (([] : List Int)), (wrap64 (x5_1 + 1)), sqE, H', ⟨by have := HK1.out; omega⟩, ⟨by (with_reducible repeat (first | apply Kd.S_alloc | apply Kd.S_drewN | apply Kd.S_drew)); exact Kd.S_mono HO131.out (fun _ hk => (by simp [Value.ownBlock]))⟩, ⟨by first | exact Kd.R_nil _ _ _ _ _ | exact Kd.N_nil _ _ _ _ _ | exact Kd.V_nil _ _ _ _ _ | exact Kd.Q_nil _ _ _ _ _ | exact Kd.S_nil _ _ _ _ _⟩, ⟨sqB⟩⟩
   rw [if_neg c4] at H
   have c4b0 := beq_eq_false_iff_ne.mpr c4
   have c4b1 := bne_iff_ne.mpr c4
   by_cases c8 : x4_1.length < 35184372088832
   case neg => rw [if_neg c8] at H; exact absurd H (by simp)
   rw [if_pos c8] at H
   have LMc8 := Aside0.mk c8
   clear c8
   obtain ⟨y133, hy133⟩ : ∃ y_ : List Int, y_ = (x4_1 ++ [rd l0 x5_1]) := ⟨_, rfl⟩
   replace H : (endonymref3_Split.l0 k1 l0 x3_1 y133 (wrap64 (x5_1 + 1))) = some r := by first | (rw [hy133]; with_reducible exact H) | (have H2_ := (Option.bind_some _ _).symm.trans H; rw [hy133]; with_reducible exact H2_) | (have H2_ := (Option.bind_some _ _).symm.trans H; with_reducible exact H2_) | with_reducible exact H | (rw [hy133]; exact H) | exact H
   have Ny133 := Aside0.mk hy133
   clear hy133
   have H' := Aside0.mk H
   clear H
   have p128 : 0 ≤ (x5_1 : Int) := sqD
   have q128 : x5_1 < (l0.length : Int) := sqD
   obtain ⟨ad128, e128, hx128_0⟩ := Kd.at_int HR0.out x5_1 p128 q128
   cases e128
   replace hx128_0 := (HB.out.cell (World.block_lt_of_cell? w _ hx128_0)).trans hx128_0
   replace p128 := eq_true p128
   replace q128 := eq_true q128
   have p132 : 0 ≤ (x5_1 : Int) := sqD
   have q132 : x5_1 < (l0.length : Int) := sqD
   obtain ⟨ad132, e132, hx132_0⟩ := Kd.at_int HR0.out x5_1 p132 q132
   obtain rfl : ad128 = ad132 := (by injection e132)
   replace hx132_0 := (HB.out.cell (World.block_lt_of_cell? w _ hx132_0)).trans hx132_0
   replace p132 := eq_true p132
   replace q132 := eq_true q132
   go_wp2_with (first | ((with_reducible refine gate_builtin (b := .append) (xs := #[.tmp 21, .tmp 26]) rfl ?_); at_builtin; refine Kd.R_append (Kd.int .i32) (w0 := w) w.heap.size rfl (.tmp 21) (.tmp 26) 22 21 (.int .i32 0) 4 rfl Try.underlying22 info21 rfl (by decide) (by omega) u4 x4_1 (rd l0 x5_1) [.int .i32 (rd l0 x5_1)] (fun _ => True) (fun _ => False) rfl rfl ?aP (fun _ hk => hk.elim) ?aF ?aO ?aB ?aS ?aL ?_; (case aP => exact rfl); (case aB => exact sqB); (case aF => exact (fun _ _ => trivial)); (case aO => exact (sqR HO_4.out)); (case aS => exact (below_size sqB)); (case aL => have := LMc8.out; omega); intro v134 w9 ho hb hg hat; rw [← Ny133.out] at ho; have n0_ := Aside0.mk (Kd.S_after (ok := (fun _ => True)) (by (with_reducible repeat (first | apply Kd.S_alloc | apply Kd.S_drewN | apply Kd.S_drew)); exact Kd.S_mono HO_3.out (fun _ hk => ⟨trivial, hk⟩)) hg hat); have n1_ := Aside0.mk (hb); have n2_ := Aside0.mk (ho); clear HO_3; clear HB; clear HO_4; have HO_3 := n0_; have HB := n1_; have HO135 := n2_; clear n0_ n1_ n2_; clear ho hb hg hat))
   go_roundg k1
   case measure => have := HK1.out; omega
   case rel => exact ⟨(x3_1), (y133), (wrap64 (x5_1 + 1)), sqE, H', ⟨by have := HK1.out; omega⟩, ⟨by (with_reducible repeat (first | apply Kd.S_alloc | apply Kd.S_drewN | apply Kd.S_drew)); exact Kd.S_mono HO_3.out (fun _ hk => hk.2)⟩, ⟨sqR HO135.out⟩, ⟨sqB⟩⟩
def scalar_lead.f (a0 : Int) : Option (Int × Int × Int × Int) := if a0 < 128 then (some (0, 0, 0, wrap32 (a0))) else (if a0 < 194 then (some ((-1), 0, 0, 0)) else (if a0 < 224 then (some (1, 128, 191, wrap32 (Go.bits .and .i64 a0 31))) else (if a0 = 224 then (some (2, 160, 191, 0)) else (if a0 = 237 then (some (2, 128, 159, 13)) else (if a0 < 240 then (some (2, 128, 191, wrap32 (Go.bits .and .i64 a0 15))) else (if a0 = 240 then (some (3, 144, 191, 0)) else (if a0 < 244 then (some (3, 128, 191, wrap32 (Go.bits .and .i64 a0 7))) else (if a0 = 244 then (some (3, 128, 143, 4)) else (some ((-1), 0, 0, 0))))))))))
theorem scalar_lead.calls (a0 : Int) (r1 : Int) (r2 : Int) (r3 : Int) (r4 : Int) (w : World) (h : scalar_lead.f a0 = some (r1, r2, r3, r4)) :
  Calls Try.prog 14 #[.int .i64 a0] w fun e w' => e = .returned (.tuple #[.int .i64 r1, .int .i64 r2, .int .i64 r3, .int .i32 r4]) ∧ Drawn0 w w' := by
 have H : (if a0 < 128 then (some (0, 0, 0, wrap32 (a0))) else (if a0 < 194 then (some ((-1), 0, 0, 0)) else (if a0 < 224 then (some (1, 128, 191, wrap32 (Go.bits .and .i64 a0 31))) else (if a0 = 224 then (some (2, 160, 191, 0)) else (if a0 = 237 then (some (2, 128, 159, 13)) else (if a0 < 240 then (some (2, 128, 191, wrap32 (Go.bits .and .i64 a0 15))) else (if a0 = 240 then (some (3, 144, 191, 0)) else (if a0 < 244 then (some (3, 128, 191, wrap32 (Go.bits .and .i64 a0 7))) else (if a0 = 244 then (some (3, 128, 143, 4)) else (some ((-1), 0, 0, 0))))))))))) = some (r1, r2, r3, r4) := h
 clear h
 by_cases c2 : a0 < 128
 ·rw [if_pos c2] at H
  have c2b0 := decide_eq_true c2
  clear c2
  simp only [Option.some.injEq, Prod.mk.injEq] at H
  obtain ⟨rfl, rfl, rfl, rfl⟩ := H
  go_enter Try.func14, Try.ntmps14
  go_wp2
  refine bodyPost_ret (results_list (rs := [.tmp 2, .tmp 3, .tmp 4, .tmp 5]) rfl (by simp) (.tmp (.tmp (.tmp (.tmp .nil))))) rfl ?_
  exact ⟨sqE, sqW⟩
 rw [if_neg c2] at H
 have c2b0 := decide_eq_false c2
 clear c2
 by_cases c3 : a0 < 194
 ·rw [if_pos c3] at H
  have c3b0 := decide_eq_true c3
  clear c3
  simp only [Option.some.injEq, Prod.mk.injEq] at H
  obtain ⟨rfl, rfl, rfl, rfl⟩ := H
  go_enter Try.func14, Try.ntmps14
  go_wp2
  refine bodyPost_ret (results_list (rs := [.tmp 2, .tmp 3, .tmp 4, .tmp 5]) rfl (by simp) (.tmp (.tmp (.tmp (.tmp .nil))))) rfl ?_
  exact ⟨sqE, sqW⟩
 rw [if_neg c3] at H
 have c3b0 := decide_eq_false c3
 clear c3
 by_cases c4 : a0 < 224
 ·rw [if_pos c4] at H
  have c4b0 := decide_eq_true c4
  clear c4
  simp only [Option.some.injEq, Prod.mk.injEq] at H
  obtain ⟨rfl, rfl, rfl, rfl⟩ := H
  go_enter Try.func14, Try.ntmps14
  go_wp2
  refine bodyPost_ret (results_list (rs := [.tmp 2, .tmp 3, .tmp 4, .tmp 5]) rfl (by simp) (.tmp (.tmp (.tmp (.tmp .nil))))) rfl ?_
  exact ⟨sqE, sqW⟩
 rw [if_neg c4] at H
 have c4b0 := decide_eq_false c4
 clear c4
 by_cases c5 : a0 = 224
 ·rw [if_pos c5] at H
  have c5b0 := beq_iff_eq.mpr c5
  have c5b1 := bne_eq_false_iff_eq.mpr c5
  clear c5
  simp only [Option.some.injEq, Prod.mk.injEq] at H
  obtain ⟨rfl, rfl, rfl, rfl⟩ := H
  go_enter Try.func14, Try.ntmps14
  go_wp2
  refine bodyPost_ret (results_list (rs := [.tmp 2, .tmp 3, .tmp 4, .tmp 5]) rfl (by simp) (.tmp (.tmp (.tmp (.tmp .nil))))) rfl ?_
  exact ⟨sqE, sqW⟩
 rw [if_neg c5] at H
 have c5b0 := beq_eq_false_iff_ne.mpr c5
 have c5b1 := bne_iff_ne.mpr c5
 by_cases c6 : a0 = 237
 ·rw [if_pos c6] at H
  have c6b0 := beq_iff_eq.mpr c6
  have c6b1 := bne_eq_false_iff_eq.mpr c6
  clear c6
  simp only [Option.some.injEq, Prod.mk.injEq] at H
  obtain ⟨rfl, rfl, rfl, rfl⟩ := H
  go_enter Try.func14, Try.ntmps14
  go_wp2
  refine bodyPost_ret (results_list (rs := [.tmp 2, .tmp 3, .tmp 4, .tmp 5]) rfl (by simp) (.tmp (.tmp (.tmp (.tmp .nil))))) rfl ?_
  exact ⟨sqE, sqW⟩
 rw [if_neg c6] at H
 have c6b0 := beq_eq_false_iff_ne.mpr c6
 have c6b1 := bne_iff_ne.mpr c6
 by_cases c7 : a0 < 240
 ·rw [if_pos c7] at H
  have c7b0 := decide_eq_true c7
  clear c7
  simp only [Option.some.injEq, Prod.mk.injEq] at H
  obtain ⟨rfl, rfl, rfl, rfl⟩ := H
  go_enter Try.func14, Try.ntmps14
  go_wp2
  refine bodyPost_ret (results_list (rs := [.tmp 2, .tmp 3, .tmp 4, .tmp 5]) rfl (by simp) (.tmp (.tmp (.tmp (.tmp .nil))))) rfl ?_
  exact ⟨sqE, sqW⟩
 rw [if_neg c7] at H
 have c7b0 := decide_eq_false c7
 clear c7
 by_cases c8 : a0 = 240
 ·rw [if_pos c8] at H
  have c8b0 := beq_iff_eq.mpr c8
  have c8b1 := bne_eq_false_iff_eq.mpr c8
  clear c8
  simp only [Option.some.injEq, Prod.mk.injEq] at H
  obtain ⟨rfl, rfl, rfl, rfl⟩ := H
  go_enter Try.func14, Try.ntmps14
  go_wp2
  refine bodyPost_ret (results_list (rs := [.tmp 2, .tmp 3, .tmp 4, .tmp 5]) rfl (by simp) (.tmp (.tmp (.tmp (.tmp .nil))))) rfl ?_
  exact ⟨sqE, sqW⟩
 rw [if_neg c8] at H
 have c8b0 := beq_eq_false_iff_ne.mpr c8
 have c8b1 := bne_iff_ne.mpr c8
 by_cases c9 : a0 < 244
 ·rw [if_pos c9] at H
  have c9b0 := decide_eq_true c9
  clear c9
  simp only [Option.some.injEq, Prod.mk.injEq] at H
  obtain ⟨rfl, rfl, rfl, rfl⟩ := H
  go_enter Try.func14, Try.ntmps14
  go_wp2
  refine bodyPost_ret (results_list (rs := [.tmp 2, .tmp 3, .tmp 4, .tmp 5]) rfl (by simp) (.tmp (.tmp (.tmp (.tmp .nil))))) rfl ?_
  exact ⟨sqE, sqW⟩
 rw [if_neg c9] at H
 have c9b0 := decide_eq_false c9
 clear c9
 by_cases c10 : a0 = 244
 ·rw [if_pos c10] at H
  have c10b0 := beq_iff_eq.mpr c10
  have c10b1 := bne_eq_false_iff_eq.mpr c10
  clear c10
  simp only [Option.some.injEq, Prod.mk.injEq] at H
  obtain ⟨rfl, rfl, rfl, rfl⟩ := H
  go_enter Try.func14, Try.ntmps14
  go_wp2
  refine bodyPost_ret (results_list (rs := [.tmp 2, .tmp 3, .tmp 4, .tmp 5]) rfl (by simp) (.tmp (.tmp (.tmp (.tmp .nil))))) rfl ?_
  exact ⟨sqE, sqW⟩
 rw [if_neg c10] at H
 have c10b0 := beq_eq_false_iff_ne.mpr c10
 have c10b1 := bne_iff_ne.mpr c10
 simp only [Option.some.injEq, Prod.mk.injEq] at H
 obtain ⟨rfl, rfl, rfl, rfl⟩ := H
 go_enter Try.func14, Try.ntmps14
 go_wp2
 refine bodyPost_ret (results_list (rs := [.tmp 2, .tmp 3, .tmp 4, .tmp 5]) rfl (by simp) (.tmp (.tmp (.tmp (.tmp .nil))))) rfl ?_
 exact ⟨sqE, sqW⟩
mutual
def scalar_Decode.l0 : Nat → ByteArray → List Int → Int → Option (List Int × Int × Int)
 | 0, _, _, _ => none
 | k + 1, x0, x5, x6 => if x6 = (x0.size : Int) then (some (x5, 0, 0)) else (if 0 ≤ x6 then (if x6 < (x0.size : Int) then ((scalar_lead.f (wrap64 (bt x0 x6))).bind fun bt139 => (if bt139.1 < 0 then (some (([] : List Int), x6, 30)) else (scalar_Decode.l1 k x0 x5 (wrap64 (x6 + 1)) bt139.1 bt139.2.1 bt139.2.2.1 bt139.2.2.2))) else (none)) else (none))
def scalar_Decode.l1 : Nat → ByteArray → List Int → Int → Int → Int → Int → Int → Option (List Int × Int × Int)
 | 0, _, _, _, _, _, _, _ => none
 | k + 1, x0, x5, x6, x7, x8, x9, x10 => if x7 = 0 then (if x5.length < 35184372088832 then (scalar_Decode.l0 k x0 (x5 ++ [x10]) x6) else (none)) else (if x6 = (x0.size : Int) then (some (([] : List Int), x6, 30)) else (if 0 ≤ x6 then (if x6 < (x0.size : Int) then (if (wrap64 (bt x0 x6)) < x8 then (some (([] : List Int), x6, 30)) else (if (wrap64 (bt x0 x6)) > x9 then (some (([] : List Int), x6, 30)) else (scalar_Decode.l1 k x0 x5 (wrap64 (x6 + 1)) (wrap64 (x7 - 1)) 128 191 (Go.bits .or .i32 (wrap32 (x10 * 64)) (wrap32 (Go.bits .and .u8 (bt x0 x6) 63)))))) else (none)) else (none)))
end
def scalar_Decode.f (k : Nat) (a0 : ByteArray) : Option (List Int × Int × Int) := scalar_Decode.l0 k a0 ([] : List Int) 0
theorem scalar_Decode.mono_l : ∀ k, (∀ y0 y1 y2, LeO (scalar_Decode.l0 k y0 y1 y2) (scalar_Decode.l0 (k + 1) y0 y1 y2)) ∧ (∀ y0 y1 y2 y3 y4 y5 y6, LeO (scalar_Decode.l1 k y0 y1 y2 y3 y4 y5 y6) (scalar_Decode.l1 (k + 1) y0 y1 y2 y3 y4 y5 y6))
 | 0 => ⟨fun _ _ _ r h => by simp [scalar_Decode.l0] at h, fun _ _ _ _ _ _ _ r h => by simp [scalar_Decode.l1] at h⟩
 | k + 1 => by
  obtain ⟨ih0, ih1⟩ := scalar_Decode.mono_l k
  refine ⟨?_, ?_⟩
  ·
   intro y0 y1 y2
   unfold scalar_Decode.l0
   repeat' first | (with_reducible first | apply ih0 | apply ih1 | apply LeO.refl | apply LeO.none | refine LeO.ite ?_ ?_ | refine LeO.bind ?_ (fun _ => ?_)) | apply LeO.none | refine LeO.ite ?_ ?_ | refine LeO.bind ?_ (fun _ => ?_)
  ·
   intro y0 y1 y2 y3 y4 y5 y6
   unfold scalar_Decode.l1
   repeat' first | (with_reducible first | apply ih0 | apply ih1 | apply LeO.refl | apply LeO.none | refine LeO.ite ?_ ?_ | refine LeO.bind ?_ (fun _ => ?_)) | apply LeO.none | refine LeO.ite ?_ ?_ | refine LeO.bind ?_ (fun _ => ?_)
theorem scalar_Decode.mono : ∀ a0 k, LeO (scalar_Decode.f k a0) (scalar_Decode.f (k + 1) a0) := by
 intro a0 k
 obtain ⟨ih0, ih1⟩ := scalar_Decode.mono_l k
 unfold scalar_Decode.f
 repeat' first | (with_reducible first | apply ih0 | apply ih1 | apply LeO.refl | apply LeO.none | refine LeO.ite ?_ ?_ | refine LeO.bind ?_ (fun _ => ?_)) | apply LeO.none | refine LeO.ite ?_ ?_ | refine LeO.bind ?_ (fun _ => ?_)
attribute [local go_sem] wpStretch
@[local go_sem] theorem toLabel_ret' {J : Nat → Nat → Act → World → Prop} {g : Nat} {Q : Exit → Act → World → Prop} {a : Act} {w : World} : Exit.toLabel J g Q .ret a w = Q .ret a w := rfl
@[local go_sem] theorem toLabel_exit' {J : Nat → Nat → Act → World → Prop} {g : Nat} {Q : Exit → Act → World → Prop} {a : Act} {w : World} (i : Nat) : Exit.toLabel J g Q (.exit i) a w = Q (.exit i) a w := rfl
theorem arr_explicit (t : Array Value) (n : Nat) (h : t.size = n) : t = ((List.range n).map fun i => t.getD i undef).toArray := by
 apply Array.ext
 ·
  simp [h]
 ·
  intro i h1 h2
  simp [Array.getD, h1]
def scalar_Decode.J (a0 : ByteArray) (r1 : List Int) (r2 r3 : Int) (W : World) (l g : Nat) (a' : Act) (w' : World) : Prop :=
 (l = 0 ∧ ∃ (v5 : Value) (x5 : List Int) (x6 : Int), a'.tmps.size = 70 ∧ a'.defers = [] ∧ a'.tmps.getD 0 undef = .string a0 ∧ a'.tmps.getD 5 undef = v5 ∧ a'.tmps.getD 6 undef = .int .i64 x6 ∧ Aside0 (scalar_Decode.l0 g a0 x5 x6 = some (r1, r2, r3)) ∧ Aside0 (Kd.R (Kd.int .i32) 21 w' W.heap.size (fun _ => True) v5 x5) ∧ Aside0 (Below W.heap.size W w')) ∨
  (l = 1 ∧ ∃ (v5 : Value) (x5 : List Int) (x6 x7 x8 x9 x10 : Int), a'.tmps.size = 70 ∧ a'.defers = [] ∧ a'.tmps.getD 0 undef = .string a0 ∧ a'.tmps.getD 5 undef = v5 ∧ a'.tmps.getD 6 undef = .int .i64 x6 ∧ a'.tmps.getD 7 undef = .int .i64 x7 ∧ a'.tmps.getD 8 undef = .int .i64 x8 ∧ a'.tmps.getD 9 undef = .int .i64 x9 ∧ a'.tmps.getD 10 undef = .int .i32 x10 ∧ Aside0 (scalar_Decode.l1 g a0 x5 x6 x7 x8 x9 x10 = some (r1, r2, r3)) ∧ Aside0 (Kd.R (Kd.int .i32) 21 w' W.heap.size (fun _ => True) v5 x5) ∧ Aside0 (Below W.heap.size W w'))
theorem scalar_Decode.J_elim {a0 : ByteArray} {r1 : List Int} {r2 r3 : Int} {W : World} {l g : Nat} {a' : Act} {w' : World} (h : scalar_Decode.J a0 r1 r2 r3 W l g a' w') :
  (l = 0 ∧ ∃ (v5 : Value) (x5 : List Int) (x6 : Int) (u1 u2 u3 u4 u7 u8 u9 u10 u11 u12 u13 u14 u15 u16 u17 u18 u19 u20 u21 u22 u23 u24 u25 u26 u27 u28 u29 u30 u31 u32 u33 u34 u35 u36 u37 u38 u39 u40 u41 u42 u43 u44 u45 u46 u47 u48 u49 u50 u51 u52 u53 u54 u55 u56 u57 u58 u59 u60 u61 u62 u63 u64 u65 u66 u67 u68 u69 : Value), a' = ⟨#[.string a0, u1, u2, u3, u4, v5, .int .i64 x6, u7, u8, u9, u10, u11, u12, u13, u14, u15, u16, u17, u18, u19, u20, u21, u22, u23, u24, u25, u26, u27, u28, u29, u30, u31, u32, u33, u34, u35, u36, u37, u38, u39, u40, u41, u42, u43, u44, u45, u46, u47, u48, u49, u50, u51, u52, u53, u54, u55, u56, u57, u58, u59, u60, u61, u62, u63, u64, u65, u66, u67, u68, u69], []⟩ ∧ Aside0 (scalar_Decode.l0 g a0 x5 x6 = some (r1, r2, r3)) ∧ Aside0 (Kd.R (Kd.int .i32) 21 w' W.heap.size (fun _ => True) v5 x5) ∧ Aside0 (Below W.heap.size W w')) ∨
  (l = 1 ∧ ∃ (v5 : Value) (x5 : List Int) (x6 x7 x8 x9 x10 : Int) (u1 u2 u3 u4 u11 u12 u13 u14 u15 u16 u17 u18 u19 u20 u21 u22 u23 u24 u25 u26 u27 u28 u29 u30 u31 u32 u33 u34 u35 u36 u37 u38 u39 u40 u41 u42 u43 u44 u45 u46 u47 u48 u49 u50 u51 u52 u53 u54 u55 u56 u57 u58 u59 u60 u61 u62 u63 u64 u65 u66 u67 u68 u69 : Value), a' = ⟨#[.string a0, u1, u2, u3, u4, v5, .int .i64 x6, .int .i64 x7, .int .i64 x8, .int .i64 x9, .int .i32 x10, u11, u12, u13, u14, u15, u16, u17, u18, u19, u20, u21, u22, u23, u24, u25, u26, u27, u28, u29, u30, u31, u32, u33, u34, u35, u36, u37, u38, u39, u40, u41, u42, u43, u44, u45, u46, u47, u48, u49, u50, u51, u52, u53, u54, u55, u56, u57, u58, u59, u60, u61, u62, u63, u64, u65, u66, u67, u68, u69], []⟩ ∧ Aside0 (scalar_Decode.l1 g a0 x5 x6 x7 x8 x9 x10 = some (r1, r2, r3)) ∧ Aside0 (Kd.R (Kd.int .i32) 21 w' W.heap.size (fun _ => True) v5 x5) ∧ Aside0 (Below W.heap.size W w')) := by
 obtain ⟨t, d⟩ := a'
 rcases h with ⟨hl, v5, x5, x6, hs, hd, h0, h5, h6, h⟩ | ⟨hl, v5, x5, x6, x7, x8, x9, x10, hs, hd, h0, h5, h6, h7, h8, h9, h10, h⟩
 ·
  refine .inl ⟨hl, v5, x5, x6, t.getD 1 undef, t.getD 2 undef, t.getD 3 undef, t.getD 4 undef, t.getD 7 undef, t.getD 8 undef, t.getD 9 undef, t.getD 10 undef, t.getD 11 undef, t.getD 12 undef, t.getD 13 undef, t.getD 14 undef, t.getD 15 undef, t.getD 16 undef, t.getD 17 undef, t.getD 18 undef, t.getD 19 undef, t.getD 20 undef, t.getD 21 undef, t.getD 22 undef, t.getD 23 undef, t.getD 24 undef, t.getD 25 undef, t.getD 26 undef, t.getD 27 undef, t.getD 28 undef, t.getD 29 undef, t.getD 30 undef, t.getD 31 undef, t.getD 32 undef, t.getD 33 undef, t.getD 34 undef, t.getD 35 undef, t.getD 36 undef, t.getD 37 undef, t.getD 38 undef, t.getD 39 undef, t.getD 40 undef, t.getD 41 undef, t.getD 42 undef, t.getD 43 undef, t.getD 44 undef, t.getD 45 undef, t.getD 46 undef, t.getD 47 undef, t.getD 48 undef, t.getD 49 undef, t.getD 50 undef, t.getD 51 undef, t.getD 52 undef, t.getD 53 undef, t.getD 54 undef, t.getD 55 undef, t.getD 56 undef, t.getD 57 undef, t.getD 58 undef, t.getD 59 undef, t.getD 60 undef, t.getD 61 undef, t.getD 62 undef, t.getD 63 undef, t.getD 64 undef, t.getD 65 undef, t.getD 66 undef, t.getD 67 undef, t.getD 68 undef, t.getD 69 undef, ?_, h⟩
  subst hd
  congr 1
  refine (arr_explicit t 70 hs).trans ?_
  show #[t.getD 0 undef, t.getD 1 undef, t.getD 2 undef, t.getD 3 undef, t.getD 4 undef, t.getD 5 undef, t.getD 6 undef, t.getD 7 undef, t.getD 8 undef, t.getD 9 undef, t.getD 10 undef, t.getD 11 undef, t.getD 12 undef, t.getD 13 undef, t.getD 14 undef, t.getD 15 undef, t.getD 16 undef, t.getD 17 undef, t.getD 18 undef, t.getD 19 undef, t.getD 20 undef, t.getD 21 undef, t.getD 22 undef, t.getD 23 undef, t.getD 24 undef, t.getD 25 undef, t.getD 26 undef, t.getD 27 undef, t.getD 28 undef, t.getD 29 undef, t.getD 30 undef, t.getD 31 undef, t.getD 32 undef, t.getD 33 undef, t.getD 34 undef, t.getD 35 undef, t.getD 36 undef, t.getD 37 undef, t.getD 38 undef, t.getD 39 undef, t.getD 40 undef, t.getD 41 undef, t.getD 42 undef, t.getD 43 undef, t.getD 44 undef, t.getD 45 undef, t.getD 46 undef, t.getD 47 undef, t.getD 48 undef, t.getD 49 undef, t.getD 50 undef, t.getD 51 undef, t.getD 52 undef, t.getD 53 undef, t.getD 54 undef, t.getD 55 undef, t.getD 56 undef, t.getD 57 undef, t.getD 58 undef, t.getD 59 undef, t.getD 60 undef, t.getD 61 undef, t.getD 62 undef, t.getD 63 undef, t.getD 64 undef, t.getD 65 undef, t.getD 66 undef, t.getD 67 undef, t.getD 68 undef, t.getD 69 undef] = _
  simp only [h0, h5, h6]
 ·
  refine .inr ⟨hl, v5, x5, x6, x7, x8, x9, x10, t.getD 1 undef, t.getD 2 undef, t.getD 3 undef, t.getD 4 undef, t.getD 11 undef, t.getD 12 undef, t.getD 13 undef, t.getD 14 undef, t.getD 15 undef, t.getD 16 undef, t.getD 17 undef, t.getD 18 undef, t.getD 19 undef, t.getD 20 undef, t.getD 21 undef, t.getD 22 undef, t.getD 23 undef, t.getD 24 undef, t.getD 25 undef, t.getD 26 undef, t.getD 27 undef, t.getD 28 undef, t.getD 29 undef, t.getD 30 undef, t.getD 31 undef, t.getD 32 undef, t.getD 33 undef, t.getD 34 undef, t.getD 35 undef, t.getD 36 undef, t.getD 37 undef, t.getD 38 undef, t.getD 39 undef, t.getD 40 undef, t.getD 41 undef, t.getD 42 undef, t.getD 43 undef, t.getD 44 undef, t.getD 45 undef, t.getD 46 undef, t.getD 47 undef, t.getD 48 undef, t.getD 49 undef, t.getD 50 undef, t.getD 51 undef, t.getD 52 undef, t.getD 53 undef, t.getD 54 undef, t.getD 55 undef, t.getD 56 undef, t.getD 57 undef, t.getD 58 undef, t.getD 59 undef, t.getD 60 undef, t.getD 61 undef, t.getD 62 undef, t.getD 63 undef, t.getD 64 undef, t.getD 65 undef, t.getD 66 undef, t.getD 67 undef, t.getD 68 undef, t.getD 69 undef, ?_, h⟩
  subst hd
  congr 1
  refine (arr_explicit t 70 hs).trans ?_
  show #[t.getD 0 undef, t.getD 1 undef, t.getD 2 undef, t.getD 3 undef, t.getD 4 undef, t.getD 5 undef, t.getD 6 undef, t.getD 7 undef, t.getD 8 undef, t.getD 9 undef, t.getD 10 undef, t.getD 11 undef, t.getD 12 undef, t.getD 13 undef, t.getD 14 undef, t.getD 15 undef, t.getD 16 undef, t.getD 17 undef, t.getD 18 undef, t.getD 19 undef, t.getD 20 undef, t.getD 21 undef, t.getD 22 undef, t.getD 23 undef, t.getD 24 undef, t.getD 25 undef, t.getD 26 undef, t.getD 27 undef, t.getD 28 undef, t.getD 29 undef, t.getD 30 undef, t.getD 31 undef, t.getD 32 undef, t.getD 33 undef, t.getD 34 undef, t.getD 35 undef, t.getD 36 undef, t.getD 37 undef, t.getD 38 undef, t.getD 39 undef, t.getD 40 undef, t.getD 41 undef, t.getD 42 undef, t.getD 43 undef, t.getD 44 undef, t.getD 45 undef, t.getD 46 undef, t.getD 47 undef, t.getD 48 undef, t.getD 49 undef, t.getD 50 undef, t.getD 51 undef, t.getD 52 undef, t.getD 53 undef, t.getD 54 undef, t.getD 55 undef, t.getD 56 undef, t.getD 57 undef, t.getD 58 undef, t.getD 59 undef, t.getD 60 undef, t.getD 61 undef, t.getD 62 undef, t.getD 63 undef, t.getD 64 undef, t.getD 65 undef, t.getD 66 undef, t.getD 67 undef, t.getD 68 undef, t.getD 69 undef] = _
  simp only [h0, h5, h6, h7, h8, h9, h10]
theorem scalar_Decode.calls (k : Nat) (a0 : ByteArray) (r1 : List Int) (r2 : Int) (r3 : Int) (w : World) (h : scalar_Decode.f k a0 = some (r1, r2, r3)) :
  Calls Try.prog 10 #[.string a0] w fun e w' => ∃ v0_ : Value, e = .returned (.tuple #[v0_, .int .i64 r2, .int .i64 r3]) ∧ Kd.R (Kd.int .i32) 21 w' w.heap.size (fun _ => True) v0_ r1 ∧ Below w.heap.size w w' := by
 have HB := Aside0.mk (Below.refl w.heap.size w)
 have H : (scalar_Decode.l0 k a0 ([] : List Int) 0) = some (r1, r2, r3) := h
 clear h
 have H' := Aside0.mk H
 clear H
 go_enter Try.func10, Try.ntmps10
 go_wp2
 refine wp_scope_labels (scalar_Decode.J a0 r1 r2 r3 w) (by decide) (k + 1) ?_ ?_
 ·
  simp only [Code.flat, List.cons_append, List.nil_append, wpStretch]
  go_wp2
  exact ⟨k, Nat.lt_succ_self _, .inl ⟨rfl, _, [], 0, rfl, rfl, rfl, rfl, rfl, H', ⟨Kd.R_nil _ _ _ _ _⟩, HB⟩⟩
 ·
  intro l g a' w' hJ
  clear HB H'
  rcases scalar_Decode.J_elim hJ with ⟨rfl, u5, x5_1, x6_1, u1, u2, u3, u4, u7, u8, u9, u10, u11, u12, u13, u14, u15, u16, u17, u18, u19, u20, u21, u22, u23, u24, u25, u26, u27, u28, u29, u30, u31, u32, u33, u34, u35, u36, u37, u38, u39, u40, u41, u42, u43, u44, u45, u46, u47, u48, u49, u50, u51, u52, u53, u54, u55, u56, u57, u58, u59, u60, u61, u62, u63, u64, u65, u66, u67, u68, u69, rfl, HA, HO_5, HB⟩ | ⟨rfl, v5, x5_2, x6_2, x7_2, x8_2, x9_2, x10_2, u1, u2, u3, u4, u11, u12, u13, u14, u15, u16, u17, u18, u19, u20, u21, u22, u23, u24, u25, u26, u27, u28, u29, u30, u31, u32, u33, u34, u35, u36, u37, u38, u39, u40, u41, u42, u43, u44, u45, u46, u47, u48, u49, u50, u51, u52, u53, u54, u55, u56, u57, u58, u59, u60, u61, u62, u63, u64, u65, u66, u67, u68, u69, rfl, HA, HO_5, HB⟩
  ·
   clear hJ
   refine ⟨_, (by simp only [Code.flat, List.cons_append, List.nil_append, behind, Nat.reduceBEq, if_true, Bool.false_eq_true, if_false]; exact rfl), ?_⟩
   simp only [wpStretch]
   cases g with
   | zero => exact absurd HA.out (by simp [scalar_Decode.l0])
   | succ k1 =>
    have H := HA.out
    clear HA
    simp only [scalar_Decode.l0] at H
    by_cases c2 : x6_1 = (a0.size : Int)
    ·
     rw [if_pos c2] at H
     have c2b0 := beq_iff_eq.mpr c2
     have c2b1 := bne_eq_false_iff_eq.mpr c2
     clear c2
     simp only [Option.some.injEq, Prod.mk.injEq] at H
     obtain ⟨rfl, rfl, rfl⟩ := H
     go_wp2
     rw [toLabel_ret']
     go_ret3
     exact ⟨_, rfl, sqR HO_5.out, sqB⟩
    ·
     rw [if_neg c2] at H
     have c2b0 := beq_eq_false_iff_ne.mpr c2
     have c2b1 := bne_iff_ne.mpr c2
     by_cases c3 : 0 ≤ x6_1
     ·
      rw [if_pos c3] at H
      have c3b0 := decide_eq_true c3
      clear c3
      by_cases c4 : x6_1 < (a0.size : Int)
      ·
       rw [if_pos c4] at H
       have c4b0 := decide_eq_true c4
       clear c4
       obtain ⟨⟨t101, t102, t103, t104⟩, A6, H⟩ := sqO H
       try dsimp only at H
       by_cases c7 : t101 < 0
       ·
        rw [if_pos c7] at H
        have c7b0 := decide_eq_true c7
        clear c7
        simp only [Option.some.injEq, Prod.mk.injEq] at H
        obtain ⟨rfl, rfl, rfl⟩ := H
        have p5 : 0 ≤ (x6_1 : Int) := sqD
        have q5 : x6_1 < (a0.size : Int) := sqD
        have hx5 := bt_at a0 x6_1
        replace p5 := eq_true p5
        replace q5 := eq_true q5
        go_wp2_with (first | ((with_reducible refine gate_callee (f := 14) rfl ?_); refine goesL_ (some 21) rfl rfl Try.func14 (by kernel_rfl) rfl #[.int .i64 (wrap64 (bt a0 x6_1))] rfl sqA ?_; (with_reducible refine (scalar_lead.calls (wrap64 (bt a0 x6_1)) t101 t102 t103 t104 _ A6.out).mono ?_); rintro e w' ⟨rfl, ⟨nd, rfl⟩⟩; refine ⟨_, rfl, ?_⟩))
        rw [toLabel_ret']
        go_ret3
        exact ⟨_, rfl, by first | exact Kd.R_nil _ _ _ _ _ | exact Kd.N_nil _ _ _ _ _, sqB⟩
       ·
        rw [if_neg c7] at H
        have c7b0 := decide_eq_false c7
        clear c7
        have H' := Aside0.mk H
        clear H
        have p5 : 0 ≤ (x6_1 : Int) := sqD
        have q5 : x6_1 < (a0.size : Int) := sqD
        have hx5 := bt_at a0 x6_1
        replace p5 := eq_true p5
        replace q5 := eq_true q5
        go_wp2_with (first | ((with_reducible refine gate_callee (f := 14) rfl ?_); refine goesL_ (some 21) rfl rfl Try.func14 (by kernel_rfl) rfl #[.int .i64 (wrap64 (bt a0 x6_1))] rfl sqA ?_; (with_reducible refine (scalar_lead.calls (wrap64 (bt a0 x6_1)) t101 t102 t103 t104 _ A6.out).mono ?_); rintro e w' ⟨rfl, ⟨nd, rfl⟩⟩; refine ⟨_, rfl, ?_⟩))
        exact ⟨_, Nat.lt_succ_self _, .inr ⟨rfl, _, x5_1, wrap64 (x6_1 + 1), t101, t102, t103, t104, rfl, rfl, rfl, rfl, rfl, rfl, rfl, rfl, rfl, H', ⟨sqR HO_5.out⟩, ⟨sqB⟩⟩⟩
      ·
       rw [if_neg c4] at H
       exact absurd H (by simp)
     ·
      rw [if_neg c3] at H
      exact absurd H (by simp)
  ·
   clear hJ
   refine ⟨_, (by simp only [Code.flat, List.cons_append, List.nil_append, behind, Nat.reduceBEq, if_true, Bool.false_eq_true, if_false]; exact rfl), ?_⟩
   simp only [wpStretch]
   cases g with
   | zero => exact absurd HA.out (by simp [scalar_Decode.l1])
   | succ k2 =>
    have H := HA.out
    clear HA
    simp only [scalar_Decode.l1] at H
    by_cases c8 : x7_2 = 0
    ·
     rw [if_pos c8] at H
     have c8b0 := beq_iff_eq.mpr c8
     have c8b1 := bne_eq_false_iff_eq.mpr c8
     clear c8
     by_cases c9 : x5_2.length < 35184372088832
     ·
      rw [if_pos c9] at H
      have LMc9 := Aside0.mk c9
      clear c9
      obtain ⟨y105, hy105⟩ : ∃ y_ : List Int, y_ = (x5_2 ++ [x10_2]) := ⟨_, rfl⟩
      rw [← hy105] at H
      have Ny105 := Aside0.mk hy105
      clear hy105
      have H' := Aside0.mk H
      clear H
      go_wp2_with (first | ((with_reducible refine gate_builtin (b := .append) (xs := #[.tmp 33, .tmp 35]) rfl ?_); at_builtin; refine Kd.R_append (Kd.int .i32) (w0 := w) w.heap.size rfl (.tmp 33) (.tmp 35) 22 21 (.int .i32 0) 4 rfl Try.underlying22 info21 rfl (by decide) (by omega) v5 x5_2 x10_2 [.int .i32 x10_2] (fun _ => True) (fun _ => False) rfl rfl ?aP (fun _ hk => hk.elim) ?aF ?aO ?aB ?aS ?aL ?_; (case aP => exact rfl); (case aB => exact sqB); (case aF => exact (fun _ _ => trivial)); (case aO => exact (sqR HO_5.out)); (case aS => exact (below_size sqB)); (case aL => have := LMc9.out; omega); intro v106 w10 ho hb hg hat; rw [← Ny105.out] at ho; have n0_ := Aside0.mk (hb); have n1_ := Aside0.mk (ho); clear HB; clear HO_5; have HB := n0_; have HO107 := n1_; clear n0_ n1_; clear ho hb hg hat))
      go_step3
      exact ⟨_, Nat.lt_succ_self _, .inl ⟨rfl, _, y105, x6_2, rfl, rfl, rfl, rfl, rfl, H', ⟨sqR HO107.out⟩, ⟨sqB⟩⟩⟩
     ·
      rw [if_neg c9] at H
      exact absurd H (by simp)
    ·
     rw [if_neg c8] at H
     have c8b0 := beq_eq_false_iff_ne.mpr c8
     have c8b1 := bne_iff_ne.mpr c8
     by_cases c11 : x6_2 = (a0.size : Int)
     ·
      rw [if_pos c11] at H
      have c11b0 := beq_iff_eq.mpr c11
      have c11b1 := bne_eq_false_iff_eq.mpr c11
      clear c11
      simp only [Option.some.injEq, Prod.mk.injEq] at H
      obtain ⟨rfl, rfl, rfl⟩ := H
      go_wp2
      rw [toLabel_ret']
      go_ret3
      exact ⟨_, rfl, by first | exact Kd.R_nil _ _ _ _ _ | exact Kd.N_nil _ _ _ _ _, sqB⟩
     ·
      rw [if_neg c11] at H
      have c11b0 := beq_eq_false_iff_ne.mpr c11
      have c11b1 := bne_iff_ne.mpr c11
      by_cases c12 : 0 ≤ x6_2
      ·
       rw [if_pos c12] at H
       have c12b0 := decide_eq_true c12
       clear c12
       by_cases c13 : x6_2 < (a0.size : Int)
       ·
        rw [if_pos c13] at H
        have c13b0 := decide_eq_true c13
        clear c13
        have p14 : 0 ≤ (x6_2 : Int) := sqD
        have q14 : x6_2 < (a0.size : Int) := sqD
        have hx14 := bt_at a0 x6_2
        replace p14 := eq_true p14
        replace q14 := eq_true q14
        by_cases c15 : (wrap64 (bt a0 x6_2)) < x8_2
        ·
         rw [if_pos c15] at H
         have c15b0 := decide_eq_true c15
         clear c15
         simp only [Option.some.injEq, Prod.mk.injEq] at H
         obtain ⟨rfl, rfl, rfl⟩ := H
         go_wp2
         rw [toLabel_ret']
         go_ret3
         exact ⟨_, rfl, by first | exact Kd.R_nil _ _ _ _ _ | exact Kd.N_nil _ _ _ _ _, sqB⟩
        ·
         rw [if_neg c15] at H
         have c15b0 := decide_eq_false c15
         clear c15
         by_cases c17 : (wrap64 (bt a0 x6_2)) > x9_2
         ·
          rw [if_pos c17] at H
          have c17b0 := decide_eq_true c17
          clear c17
          simp only [Option.some.injEq, Prod.mk.injEq] at H
          obtain ⟨rfl, rfl, rfl⟩ := H
          go_wp2
          rw [toLabel_ret']
          go_ret3
          exact ⟨_, rfl, by first | exact Kd.R_nil _ _ _ _ _ | exact Kd.N_nil _ _ _ _ _, sqB⟩
         ·
          rw [if_neg c17] at H
          have c17b0 := decide_eq_false c17
          clear c17
          have H' := Aside0.mk H
          clear H
          go_wp2
          go_step3
          exact ⟨_, Nat.lt_succ_self _, .inr ⟨rfl, _, x5_2, wrap64 (x6_2 + 1), wrap64 (x7_2 - 1), 128, 191, (Go.bits .or .i32 (wrap32 (x10_2 * 64)) (wrap32 (Go.bits .and .u8 (bt a0 x6_2) 63))), rfl, rfl, rfl, rfl, rfl, rfl, rfl, rfl, rfl, H', ⟨sqR HO_5.out⟩, ⟨sqB⟩⟩⟩
       ·
        rw [if_neg c13] at H
        exact absurd H (by simp)
      ·
       rw [if_neg c12] at H
       exact absurd H (by simp)
def scalar_Valid.f (a0 : Int) : Option (Bool) := if a0 ≥ 0 then (if a0 ≤ 1114111 then (if a0 < 55296 then (some true) else (some (decide (a0 > 57343)))) else (some false)) else (some false)
theorem scalar_Valid.calls (a0 : Int) (r : Bool) (w : World) (h : scalar_Valid.f a0 = some r) :
  Calls Try.prog 12 #[.int .i32 a0] w fun e w' => e = .returned (.bool r) ∧ Drawn0 w w' := by
 have H : (if a0 ≥ 0 then (if a0 ≤ 1114111 then (if a0 < 55296 then (some true) else (some (decide (a0 > 57343)))) else (some false)) else (some false)) = some r := h
 clear h
 by_cases c2 : a0 ≥ 0
 case neg =>
  rw [if_neg c2] at H
  have c2b0 := decide_eq_false c2
  clear c2
  obtain rfl := Option.some.inj H
  go_enter Try.func12, Try.ntmps12
  go_wp2
  go_ret
  exact ⟨sqE, sqW⟩
 rw [if_pos c2] at H
 have c2b0 := decide_eq_true c2
 clear c2
 by_cases c3 : a0 ≤ 1114111
 case neg =>
  rw [if_neg c3] at H
  have c3b0 := decide_eq_false c3
  clear c3
  obtain rfl := Option.some.inj H
  go_enter Try.func12, Try.ntmps12
  go_wp2
  go_ret
  exact ⟨sqE, sqW⟩
 rw [if_pos c3] at H
 have c3b0 := decide_eq_true c3
 clear c3
 by_cases c4 : a0 < 55296
 ·rw [if_pos c4] at H
  have c4b0 := decide_eq_true c4
  clear c4
  obtain rfl := Option.some.inj H
  go_enter Try.func12, Try.ntmps12
  go_wp2
  go_ret
  exact ⟨sqE, sqW⟩
 rw [if_neg c4] at H
 have c4b0 := decide_eq_false c4
 clear c4
 obtain rfl := Option.some.inj H
 go_enter Try.func12, Try.ntmps12
 go_wp2
 go_ret
 exact ⟨sqE, sqW⟩
end Go.Proofs.Ytkgapabnokmkeaa.A
