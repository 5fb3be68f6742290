import Derived.Test.YtfmjdoofopamkaaGreatDoorWx0
namespace Go.Proofs.YtfmjdoofopamkaaGreatDoor.W
open Go.RowKit Go.Proofs.YtfmjdoofopamkaaGreatDoorW.PrintWords Go.Proofs.YtfmjdoofopamkaaGreatDoorW.PrintLast Go.Proofs.YtfmjdoofopamkaaGreatDoorW.PrintMore
set_option maxHeartbeats 8000000
set_option maxRecDepth 100000
attribute [local go_sem] max2_int min2_int max_two min_two max_three min_three max_four min_four
set_option linter.unusedVariables false
set_option linter.unusedSimpArgs false
def r2_trim.l0 : Nat → List Int → Int → Option (List Int)
 | 0, _, _ => none
 | k + 1, x0, x3 => if x3 > 0 then (if 0 ≤ (wrap64 (x3 - 1)) then (if (wrap64 (x3 - 1)) < (x0.length : Int) then (if (rd x0 (wrap64 (x3 - 1))) = 0 then (r2_trim.l0 k x0 (wrap64 (x3 - 1))) else (if 0 ≤ x3 then (if x3 ≤ (x0.length : Int) then (some (x0.take (x3 : Int).toNat)) else (none)) else (none))) else (none)) else (none)) else (if 0 ≤ x3 then (if x3 ≤ (x0.length : Int) then (some (x0.take (x3 : Int).toNat)) else (none)) else (none))
def r2_trim.f (k : Nat) (l0 : List Int) : Option (List Int) := r2_trim.l0 k l0 (l0.length : Int)
theorem r2_trim.mono_l : ∀ k, (∀ y0 y1, LeO (r2_trim.l0 k y0 y1) (r2_trim.l0 (k + 1) y0 y1))
 | 0 => fun _ _ r h => by simp [r2_trim.l0] at h
 | k + 1 => by
  have ih0 := r2_trim.mono_l k
  intro y0 y1
  unfold r2_trim.l0
  repeat' first | (with_reducible first | apply ih0 | apply LeO.refl | apply LeO.none | refine LeO.ite ?_ ?_ | refine LeO.bind ?_ (fun _ => ?_)) | apply LeO.none | refine LeO.ite ?_ ?_ | refine LeO.bind ?_ (fun _ => ?_)
theorem r2_trim.mono : ∀ a0 k, LeO (r2_trim.f k a0) (r2_trim.f (k + 1) a0) := by
 intro a0 k
 have ih0 := r2_trim.mono_l k
 unfold r2_trim.f
 repeat' first | (with_reducible first | apply ih0 | apply LeO.refl | apply LeO.none | refine LeO.ite ?_ ?_ | refine LeO.bind ?_ (fun _ => ?_)) | apply LeO.none | refine LeO.ite ?_ ?_ | refine LeO.bind ?_ (fun _ => ?_)
theorem r2_trim.calls (k : Nat) (P0_ : Nat → Prop) (u9000_ : Value) (l0 : List Int) (r : List Int) (w0 w : World) (hB : Below w0.heap.size w0 w) (ho0 : Kd.R (Kd.int .u32) 83 w w0.heap.size P0_ u9000_ l0) (h : r2_trim.f k l0 = some r) :
  Calls Tryz.prog 89 #[u9000_] w fun e w' => ∃ v0_ : Value, e = .returned (v0_) ∧ Kd.R (Kd.int .u32) 83 w' w0.heap.size (fun k_ => (P0_ k_ ∨ w.heap.size ≤ k_)) v0_ r ∧ Below w0.heap.size w0 w' ∧ Kept w w' (fun k_ => P0_ k_) := by
 have HO0 := Sd.mk (show Kd.R (Kd.int .u32) 83 w w0.heap.size (fun k_ => (P0_ k_ ∨ w.heap.size ≤ k_)) u9000_ l0 from Kd.R_mono ho0 (fun k_ hk => (.inl hk)))
 have HK := Sd.mk (Kept.refl w (fun k_ => P0_ k_))
 have HW0 := Sd.mk hB.size
 have HB := Sd.mk hB
 clear hB
 have H : (r2_trim.l0 k l0 (l0.length : Int)) = some r := h
 clear h
 have H' := Sd.mk H
 clear H
 obtain ⟨Ao2, co2, eo2⟩ := Kd.R_slice HO0.out
 subst eo2
 go_enter Tryz.func89, Tryz.ntmps89
 go_wp2
 go_loopg [3] k (fun kq v3 w' => ∃ (x3_1 : Int), v3 = .int .i64 x3_1 ∧ Sd (r2_trim.l0 kq l0 x3_1 = some r) ∧ Sd (kq ≤ k) ∧ Sd (Kd.R (Kd.int .u32) 83 w' w0.heap.size (fun k_ => (P0_ k_ ∨ w.heap.size ≤ k_)) (.slice Ao2 l0.length co2) l0) ∧ Sd (Kept w w' (fun k_ => P0_ k_)) ∧ Sd (Below w0.heap.size w0 w'))
 case atStart => exact ⟨((l0.length : Int)), sqE, H', ⟨Nat.le_refl _⟩, ⟨sqR HO0.out⟩, ⟨by repeat (first | (with_reducible first | exact HK.out | apply Kept.alloc | apply Kept.drewN | apply Kept.drew) | exact HK.out)⟩, ⟨sqB⟩⟩
 case round =>
  clear H'
  try clear p2
  obtain ⟨x3_1, rfl, HA, HK1, HO_0, HK, HB⟩ := hrel
  cases gk with
  | zero => exact absurd HA.out (by simp [r2_trim.l0])
  | succ k1 =>
   have H := HA.out
   clear HA
   simp only [r2_trim.l0] at H
   by_cases c3 : x3_1 > 0
   case neg =>
    rw [if_neg c3] at H
    have c3b0 := decide_eq_false c3
    clear c3
    by_cases c11 : 0 ≤ x3_1
    case neg => rw [if_neg c11] at H; exact absurd H (by simp)
    rw [if_pos c11] at H
    have c11b0 := eq_true c11
    have c11b1 := decide_eq_true c11
    clear c11
    by_cases c12 : x3_1 ≤ (l0.length : Int)
    case neg => rw [if_neg c12] at H; exact absurd H (by simp)
    rw [if_pos c12] at H
    have c12b0 := eq_true c12
    have c12b1 := decide_eq_true c12
    clear c12
    obtain ⟨y237, hy237⟩ : ∃ y_ : List Int, y_ = (l0.take (x3_1 : Int).toNat) := ⟨_, rfl⟩
    replace H : (some y237) = some r := by first | (rw [hy237]; with_reducible exact H) | (have H2_ := (Option.bind_some _ _).symm.trans H; rw [hy237]; with_reducible exact H2_) | (have H2_ := (Option.bind_some _ _).symm.trans H; with_reducible exact H2_) | with_reducible exact H | (rw [hy237]; exact H) | exact H
    have Ny237 := Sd.mk hy237
    clear hy237
    obtain rfl := Option.some.inj H
    have q13 : (x3_1 : Int) ≤ ((l0.length : Int) : Int) := sqD
    obtain ⟨i013, hi013, _, hsz13, _⟩ := info_parts info83
    have hcut13 := cut_to (P := Tryz.prog) 71 83 .i64 Tryz.underlying71 hi013 Ao2 l0.length co2 x3_1 sqD q13 (Kd.R_reads' HO_0.out).2.1
    have hr13 := Kd.R_take (m := (x3_1 : Int).toNat) HO_0.out (by omega)
    have hy13 : y237.length = (x3_1 : Int).toNat := (by rw [Ny237.out, List.length_take]; omega)
    rw [← Ny237.out] at hr13
    rw [← hy13] at hr13 hcut13
    clear hy13 hi013 hsz13 HO_0
    have HO239 := Sd.mk hr13
    clear hr13
    replace q13 := eq_true q13
    go_wp2
    go_ret
    exact ⟨_, sqE', sqR HO239.out, sqB, by repeat (first | (with_reducible first | exact HK.out | apply Kept.alloc | apply Kept.drewN | apply Kept.drew) | exact HK.out)⟩
   rw [if_pos c3] at H
   have c3b0 := decide_eq_true c3
   clear c3
   obtain ⟨ji4, hji4⟩ : ∃ j_ : Int, (wrap64 (x3_1 - 1)) = j_ := ⟨_, rfl⟩
   replace H : (if 0 ≤ (ji4) then (if (ji4) < (l0.length : Int) then (if (rd l0 (ji4)) = 0 then (r2_trim.l0 k1 l0 ji4) else (if 0 ≤ x3_1 then (if x3_1 ≤ (l0.length : Int) then (some (l0.take (x3_1 : Int).toNat)) else (none)) else (none))) else (none)) else (none)) = some r := by first | (rw [hji4] at H; exact H) | (simp only [hji4] at H ⊢; exact H)
   have hji4w : (IntKind.i64.wrap (x3_1 - 1)) = ji4 := (i64_w _).trans hji4
   by_cases c5 : 0 ≤ (ji4)
   case neg => rw [if_neg c5] at H; exact absurd H (by simp)
   rw [if_pos c5] at H
   have c5b0 := decide_eq_true c5
   clear c5
   by_cases c6 : (ji4) < (l0.length : Int)
   case neg => rw [if_neg c6] at H; exact absurd H (by simp)
   rw [if_pos c6] at H
   have c6b0 := decide_eq_true c6
   clear c6
   by_cases c7 : (rd l0 (ji4)) = 0
   ·rw [if_pos c7] at H
    have c7b0 := beq_iff_eq.mpr c7
    have c7b1 := bne_eq_false_iff_eq.mpr c7
    clear c7
    have H' := Sd.mk H
    clear H
    have p233 : 0 ≤ ((ji4) : Int) := sqD
    have q233 : (ji4) < (l0.length : Int) := sqD
    obtain ⟨ad233, e233, hx233_0⟩ := Kd.at_int (Kd.R_reads' HO_0.out).2.2 (ji4) p233 q233
    cases e233
    replace p233 := eq_true p233
    replace q233 := eq_true q233
    go_wp2
    go_roundg k1
    case measure => have := HK1.out; omega
    case rel => exact ⟨(ji4), (by first | rfl | (simp; done) | (simp only [← hji4] <;> (first | rfl | simp)) | (simp [*]; done)), H', ⟨by have := HK1.out; omega⟩, ⟨sqR HO_0.out⟩, ⟨by repeat (first | (with_reducible first | exact HK.out | apply Kept.alloc | apply Kept.drewN | apply Kept.drew) | exact HK.out)⟩, ⟨sqB⟩⟩
   rw [if_neg c7] at H
   have c7b0 := beq_eq_false_iff_ne.mpr c7
   have c7b1 := bne_iff_ne.mpr c7
   by_cases c8 : 0 ≤ x3_1
   case neg => rw [if_neg c8] at H; exact absurd H (by simp)
   rw [if_pos c8] at H
   have c8b0 := eq_true c8
   have c8b1 := decide_eq_true c8
   clear c8
   by_cases c9 : x3_1 ≤ (l0.length : Int)
   case neg => rw [if_neg c9] at H; exact absurd H (by simp)
   rw [if_pos c9] at H
   have c9b0 := eq_true c9
   have c9b1 := decide_eq_true c9
   clear c9
   obtain ⟨y234, hy234⟩ : ∃ y_ : List Int, y_ = (l0.take (x3_1 : Int).toNat) := ⟨_, rfl⟩
   replace H : (some y234) = some r := by first | (rw [hy234]; with_reducible exact H) | (have H2_ := (Option.bind_some _ _).symm.trans H; rw [hy234]; with_reducible exact H2_) | (have H2_ := (Option.bind_some _ _).symm.trans H; with_reducible exact H2_) | with_reducible exact H | (rw [hy234]; exact H) | exact H
   have Ny234 := Sd.mk hy234
   clear hy234
   obtain rfl := Option.some.inj H
   have p233 : 0 ≤ ((ji4) : Int) := sqD
   have q233 : (ji4) < (l0.length : Int) := sqD
   obtain ⟨ad233, e233, hx233_0⟩ := Kd.at_int (Kd.R_reads' HO_0.out).2.2 (ji4) p233 q233
   cases e233
   replace p233 := eq_true p233
   replace q233 := eq_true q233
   have q10 : (x3_1 : Int) ≤ ((l0.length : Int) : Int) := sqD
   obtain ⟨i010, hi010, _, hsz10, _⟩ := info_parts info83
   have hcut10 := cut_to (P := Tryz.prog) 71 83 .i64 Tryz.underlying71 hi010 (some ad233) l0.length co2 x3_1 sqD q10 (Kd.R_reads' HO_0.out).2.1
   have hr10 := Kd.R_take (m := (x3_1 : Int).toNat) HO_0.out (by omega)
   have hy10 : y234.length = (x3_1 : Int).toNat := (by rw [Ny234.out, List.length_take]; omega)
   rw [← Ny234.out] at hr10
   rw [← hy10] at hr10 hcut10
   clear hy10 hi010 hsz10 HO_0
   have HO236 := Sd.mk hr10
   clear hr10
   replace q10 := eq_true q10
   go_wp2
   go_ret
   exact ⟨_, by first | rfl | (simp [errW_none, errW_some] <;> rfl) | (simp only [← hji4]; first | rfl | (simp [errW_none, errW_some] <;> rfl)) | (simp [*, errW_none, errW_some] <;> rfl), sqR HO236.out, sqB, by repeat (first | (with_reducible first | exact HK.out | apply Kept.alloc | apply Kept.drewN | apply Kept.drew) | exact HK.out)⟩
mutual
def r2_Times.l0 : Nat → List Int → Int → List Int → Int → Int → Option (List Int)
 | 0, _, _, _, _, _ => none
 | k + 1, x0, x1, x7, x8, x9 => if x9 < (x0.length : Int) then (if 0 ≤ x9 then (if x7.length < 35184372088832 then (r2_Times.l0 k x0 x1 (x7 ++ [Go.bits .and .u32 ((x8 + (((rd x0 x9) * x1))) % 4294967296) 65535]) (((x8 + (((rd x0 x9) * x1))) % 4294967296) / 65536) (wrap64 (x9 + 1))) else (none)) else (none)) else (r2_Times.l1 k x7 x8)
def r2_Times.l1 : Nat → List Int → Int → Option (List Int)
 | 0, _, _ => none
 | k + 1, x7, x8 => if x8 > 0 then (if x7.length < 35184372088832 then (r2_Times.l1 k (x7 ++ [Go.bits .and .u32 x8 65535]) (x8 / 65536)) else (none)) else ((r2_trim.f k x7).bind fun t247 => (some t247))
end
def r2_Times.f (k : Nat) (l0 : List Int) (a1 : Int) (a2 : Int) : Option (List Int) := r2_Times.l0 k l0 a1 ([] : List Int) a2 0
theorem r2_Times.mono_l : ∀ k, (∀ y0 y1 y2 y3 y4, LeO (r2_Times.l0 k y0 y1 y2 y3 y4) (r2_Times.l0 (k + 1) y0 y1 y2 y3 y4)) ∧ (∀ y0 y1, LeO (r2_Times.l1 k y0 y1) (r2_Times.l1 (k + 1) y0 y1))
 | 0 => ⟨fun _ _ _ _ _ r h => by simp [r2_Times.l0] at h, fun _ _ r h => by simp [r2_Times.l1] at h⟩
 | k + 1 => by
  obtain ⟨ih0, ih1⟩ := r2_Times.mono_l k
  refine ⟨?_, ?_⟩
  ·intro y0 y1 y2 y3 y4
   unfold r2_Times.l0
   repeat' first | (with_reducible first | apply ih0 | apply ih1 | apply r2_trim.mono | apply LeO.refl | apply LeO.none | refine LeO.ite ?_ ?_ | refine LeO.bind ?_ (fun _ => ?_)) | apply LeO.none | refine LeO.ite ?_ ?_ | refine LeO.bind ?_ (fun _ => ?_)
  intro y0 y1
  unfold r2_Times.l1
  repeat' first | (with_reducible first | apply ih0 | apply ih1 | apply r2_trim.mono | apply LeO.refl | apply LeO.none | refine LeO.ite ?_ ?_ | refine LeO.bind ?_ (fun _ => ?_)) | apply LeO.none | refine LeO.ite ?_ ?_ | refine LeO.bind ?_ (fun _ => ?_)
theorem r2_Times.mono : ∀ a0 a1 a2 k, LeO (r2_Times.f k a0 a1 a2) (r2_Times.f (k + 1) a0 a1 a2) := by
 intro a0 a1 a2 k
 obtain ⟨ih0, ih1⟩ := r2_Times.mono_l k
 unfold r2_Times.f
 repeat' first | (with_reducible first | apply ih0 | apply ih1 | apply r2_trim.mono | apply LeO.refl | apply LeO.none | refine LeO.ite ?_ ?_ | refine LeO.bind ?_ (fun _ => ?_)) | apply LeO.none | refine LeO.ite ?_ ?_ | refine LeO.bind ?_ (fun _ => ?_)
theorem r2_Times.calls (k : Nat) (A0 : Option Addr) (c0 : Nat) (l0 : List Int) (a1 : Int) (a2 : Int) (r : List Int) (w : World) (hr0 : Kd.C (Kd.int .u32) w A0 l0.length l0) (hc0 : l0.length ≤ c0) (h : r2_Times.f k l0 a1 a2 = some r) :
  Calls Tryz.prog 61 #[.slice A0 l0.length c0, .int .u32 a1, .int .u32 a2] w fun e w' => ∃ v0_ : Value, e = .returned (v0_) ∧ Kd.R (Kd.int .u32) 83 w' w.heap.size (fun _ => True) v0_ r ∧ Below w.heap.size w w' := by
 have HR0 := Sd.mk hr0
 have HC0 := Sd.mk hc0
 clear hr0 hc0
 have HB := Sd.mk (Below.refl w.heap.size w)
 have H : (r2_Times.l0 k l0 a1 ([] : List Int) a2 0) = some r := h
 clear h
 have H' := Sd.mk H
 clear H
 go_enter Tryz.func61, Tryz.ntmps61
 go_wp2
 go_loopg [7, 8, 9] k (fun kq v7 v8 v9 w' => ∃ (x7_1 : List Int) (x8_1 : Int) (x9_1 : Int), v8 = .int .u32 x8_1 ∧ v9 = .int .i64 x9_1 ∧ Sd (r2_Times.l0 kq l0 a1 x7_1 x8_1 x9_1 = some r) ∧ Sd (kq ≤ k) ∧ Sd (Kd.R (Kd.int .u32) 83 w' w.heap.size (fun _ => True) v7 x7_1) ∧ Sd (Below w.heap.size w w'))
 case atStart => exact ⟨(([] : List Int)), (a2), (0), sqE, sqE, H', ⟨Nat.le_refl _⟩, ⟨by first | exact Kd.R_nil _ _ _ _ _ | exact Kd.N_nil _ _ _ _ _ | exact Kd.V_nil _ _ _ _ _ | exact Kd.Q_nil _ _ _ _ _ | exact Kd.S_nil _ _ _ _ _⟩, ⟨sqB⟩⟩
 case round =>
  clear H'
  try clear p2
  obtain ⟨x7_1, x8_1, x9_1, rfl, rfl, HA, HK1, HO_7, HB⟩ := hrel
  cases gk with
  | zero => exact absurd HA.out (by simp [r2_Times.l0])
  | succ k1 =>
   have H := HA.out
   clear HA
   simp only [r2_Times.l0] at H
   by_cases c4 : x9_1 < (l0.length : Int)
   ·rw [if_pos c4] at H
    have c4b0 := decide_eq_true c4
    clear c4
    by_cases c5 : 0 ≤ x9_1
    case neg => rw [if_neg c5] at H; exact absurd H (by simp)
    rw [if_pos c5] at H
    have c5b0 := decide_eq_true c5
    clear c5
    by_cases c6 : x7_1.length < 35184372088832
    case neg => rw [if_neg c6] at H; exact absurd H (by simp)
    rw [if_pos c6] at H
    have LMc6 := Sd.mk c6
    clear c6
    obtain ⟨y241, hy241⟩ : ∃ y_ : List Int, y_ = (x7_1 ++ [Go.bits .and .u32 ((x8_1 + (((rd l0 x9_1) * a1))) % 4294967296) 65535]) := ⟨_, rfl⟩
    replace H : (r2_Times.l0 k1 l0 a1 y241 (((x8_1 + (((rd l0 x9_1) * a1))) % 4294967296) / 65536) (wrap64 (x9_1 + 1))) = some r := by first | (rw [hy241]; with_reducible exact H) | (have H2_ := (Option.bind_some _ _).symm.trans H; rw [hy241]; with_reducible exact H2_) | (have H2_ := (Option.bind_some _ _).symm.trans H; with_reducible exact H2_) | with_reducible exact H | (rw [hy241]; exact H) | exact H
    have Ny241 := Sd.mk hy241
    clear hy241
    have H' := Sd.mk H
    clear H
    have p240 : 0 ≤ (x9_1 : Int) := sqD
    have q240 : x9_1 < (l0.length : Int) := sqD
    obtain ⟨ad240, e240, hx240_0⟩ := Kd.at_int HR0.out x9_1 p240 q240
    cases e240
    replace hx240_0 := (HB.out.cell (World.block_lt_of_cell? w _ hx240_0)).trans hx240_0
    replace p240 := eq_true p240
    replace q240 := eq_true q240
    go_wp2_with (first | ((with_reducible refine gate_builtin (b := .append) (xs := #[.tmp 25, .tmp 28]) rfl ?_); at_builtin; refine Kd.R_append (Kd.int .u32) (w0 := w) w.heap.size rfl (.tmp 25) (.tmp 28) 71 83 (.int .u32 0) 4 rfl Tryz.underlying71 info83 rfl (by decide) (by omega) u7 x7_1 (Go.bits .and .u32 ((x8_1 + (((rd l0 x9_1) * a1))) % 4294967296) 65535) [.int .u32 (Go.bits .and .u32 ((x8_1 + (((rd l0 x9_1) * a1))) % 4294967296) 65535)] (fun _ => True) (fun _ => False) rfl rfl ?aP (fun _ hk => hk.elim) ?aF ?aO ?aB ?aS ?aL ?_; (case aP => exact rfl); (case aB => exact sqB); (case aF => exact (fun _ _ => trivial)); (case aO => exact (sqR HO_7.out)); (case aS => exact (bsz sqB)); (case aL => have := LMc6.out; omega); intro v242 w7 ho hb hg hat; rw [← Ny241.out] at ho; have n0_ := Sd.mk (hb); have n1_ := Sd.mk (ho); clear HB; clear HO_7; have HB := n0_; have HO243 := n1_; clear n0_ n1_; clear ho hb hg hat))
    go_roundg k1
    case measure => have := HK1.out; omega
    case rel => exact ⟨(y241), (((x8_1 + (((rd l0 x9_1) * a1))) % 4294967296) / 65536), (wrap64 (x9_1 + 1)), sqE, sqE, H', ⟨by have := HK1.out; omega⟩, ⟨sqR HO243.out⟩, ⟨sqB⟩⟩
   rw [if_neg c4] at H
   have c4b0 := decide_eq_false c4
   clear c4
   have H' := Sd.mk H
   clear H
   go_wp2
   go_loopg [7, 8] k1 (fun kq v7 v8 w' => ∃ (x7_2 : List Int) (x8_2 : Int), v8 = .int .u32 x8_2 ∧ Sd (r2_Times.l1 kq x7_2 x8_2 = some r) ∧ Sd (kq ≤ k1) ∧ Sd (Kd.R (Kd.int .u32) 83 w' w.heap.size (fun _ => True) v7 x7_2) ∧ Sd (Below w.heap.size w w'))
   case atStart => exact ⟨(x7_1), (x8_1), sqE, H', ⟨Nat.le_refl _⟩, ⟨sqR HO_7.out⟩, ⟨sqB⟩⟩
   case round =>
    clear H'
    try clear p2
    try clear q2
    try clear hx2
    try clear c4
    try clear c4b0
    try clear c5
    try clear c5b0
    try clear c6
    try clear p6
    try clear hx240_0
    try clear p2
    try clear p240
    try clear q240
    obtain ⟨x7_2, x8_2, rfl, HA, HK2, HO_7, HB⟩ := hrel
    cases gk with
    | zero => exact absurd HA.out (by simp [r2_Times.l1])
    | succ k2 =>
     have H := HA.out
     clear HA
     simp only [r2_Times.l1] at H
     by_cases c8 : x8_2 > 0
     case neg =>
      rw [if_neg c8] at H
      have c8b0 := decide_eq_false c8
      clear c8
      obtain ⟨t247, A11, H⟩ := sqO H
      try dsimp only at H
      obtain rfl := Option.some.inj H
      obtain ⟨Ao12, co12, eo12⟩ := Kd.R_slice HO_7.out
      subst eo12
      go_wp2_with (first | ((with_reducible refine gcl (f := 89) rfl ?_); refine gL (some 42) rfl rfl Tryz.func89 (by kernel_rfl) rfl #[.slice Ao12 x7_2.length co12] rfl sqA ?_; (with_reducible refine (r2_trim.calls k2 (fun k_ => some k_ = (.slice Ao12 x7_2.length co12 : Value).ownBlock) (.slice Ao12 x7_2.length co12) x7_2 t247 w _ ?side1 ?side2 A11.out).mono ?_); (case side1 => repeat (first | (with_reducible first | exact HB.out | apply below_alloc | apply pw_below_drewN | apply below_drew1) | exact HB.out)); (case side2 => exact Kd.R_tight rfl HO_7.out); rintro e w13 ⟨v248, rfl, ho0, hb, hkp⟩; refine ⟨_, rfl, ?_⟩; have n0_ := Sd.mk (Kd.R_mono (ok' := fun k_ => True) ho0 (fun k_ hk_ => trivial)); have n1_ := Sd.mk (hb); clear HB; clear HO_7; have HO249 := n0_; have HB := n1_; clear n0_ n1_; (try clear hb); (try clear hkp); (try clear ho0)))
      go_ret
      exact ⟨_, sqE', sqR HO249.out, sqB⟩
     rw [if_pos c8] at H
     have c8b0 := decide_eq_true c8
     clear c8
     by_cases c9 : x7_2.length < 35184372088832
     case neg => rw [if_neg c9] at H; exact absurd H (by simp)
     rw [if_pos c9] at H
     have LMc9 := Sd.mk c9
     clear c9
     obtain ⟨y244, hy244⟩ : ∃ y_ : List Int, y_ = (x7_2 ++ [Go.bits .and .u32 x8_2 65535]) := ⟨_, rfl⟩
     replace H : (r2_Times.l1 k2 y244 (x8_2 / 65536)) = some r := by first | (rw [hy244]; with_reducible exact H) | (have H2_ := (Option.bind_some _ _).symm.trans H; rw [hy244]; with_reducible exact H2_) | (have H2_ := (Option.bind_some _ _).symm.trans H; with_reducible exact H2_) | with_reducible exact H | (rw [hy244]; exact H) | exact H
     have Ny244 := Sd.mk hy244
     clear hy244
     have H' := Sd.mk H
     clear H
     go_wp2_with (first | ((with_reducible refine gate_builtin (b := .append) (xs := #[.tmp 34, .tmp 37]) rfl ?_); at_builtin; refine Kd.R_append (Kd.int .u32) (w0 := w) w.heap.size rfl (.tmp 34) (.tmp 37) 71 83 (.int .u32 0) 4 rfl Tryz.underlying71 info83 rfl (by decide) (by omega) u7 x7_2 (Go.bits .and .u32 x8_2 65535) [.int .u32 (Go.bits .and .u32 x8_2 65535)] (fun _ => True) (fun _ => False) rfl rfl ?aP (fun _ hk => hk.elim) ?aF ?aO ?aB ?aS ?aL ?_; (case aP => exact rfl); (case aB => exact sqB); (case aF => exact (fun _ _ => trivial)); (case aO => exact (sqR HO_7.out)); (case aS => exact (bsz sqB)); (case aL => have := LMc9.out; omega); intro v245 w10 ho hb hg hat; rw [← Ny244.out] at ho; have n0_ := Sd.mk (hb); have n1_ := Sd.mk (ho); clear HB; clear HO_7; have HB := n0_; have HO246 := n1_; clear n0_ n1_; clear ho hb hg hat))
     go_roundg k2
     case measure => have := HK1.out; have := HK2.out; omega
     case rel => exact ⟨(y244), (x8_2 / 65536), sqE, H', ⟨by have := HK1.out; have := HK2.out; omega⟩, ⟨sqR HO246.out⟩, ⟨sqB⟩⟩
def r2_Of.l0 : Nat → Int → List Int → Option (List Int)
 | 0, _, _ => none
 | k + 1, x0, x3 => if x0 > 0 then (if x3.length < 35184372088832 then (r2_Of.l0 k (x0 / 65536) (x3 ++ [(Go.bits .and .u64 x0 65535) % 4294967296])) else (none)) else (some x3)
def r2_Of.f (k : Nat) (a0 : Int) : Option (List Int) := r2_Of.l0 k a0 ([] : List Int)
theorem r2_Of.mono_l : ∀ k, (∀ y0 y1, LeO (r2_Of.l0 k y0 y1) (r2_Of.l0 (k + 1) y0 y1))
 | 0 => fun _ _ r h => by simp [r2_Of.l0] at h
 | k + 1 => by
  have ih0 := r2_Of.mono_l k
  intro y0 y1
  unfold r2_Of.l0
  repeat' first | (with_reducible first | apply ih0 | apply LeO.refl | apply LeO.none | refine LeO.ite ?_ ?_ | refine LeO.bind ?_ (fun _ => ?_)) | apply LeO.none | refine LeO.ite ?_ ?_ | refine LeO.bind ?_ (fun _ => ?_)
theorem r2_Of.mono : ∀ a0 k, LeO (r2_Of.f k a0) (r2_Of.f (k + 1) a0) := by
 intro a0 k
 have ih0 := r2_Of.mono_l k
 unfold r2_Of.f
 repeat' first | (with_reducible first | apply ih0 | apply LeO.refl | apply LeO.none | refine LeO.ite ?_ ?_ | refine LeO.bind ?_ (fun _ => ?_)) | apply LeO.none | refine LeO.ite ?_ ?_ | refine LeO.bind ?_ (fun _ => ?_)
theorem r2_Of.calls (k : Nat) (a0 : Int) (r : List Int) (w : World) (h : r2_Of.f k a0 = some r) :
  Calls Tryz.prog 65 #[.int .u64 a0] w fun e w' => ∃ v0_ : Value, e = .returned (v0_) ∧ Kd.R (Kd.int .u32) 83 w' w.heap.size (fun _ => True) v0_ r ∧ Below w.heap.size w w' := by
 have HB := Sd.mk (Below.refl w.heap.size w)
 have H : (r2_Of.l0 k a0 ([] : List Int)) = some r := h
 clear h
 have H' := Sd.mk H
 clear H
 go_enter Tryz.func65, Tryz.ntmps65
 go_wp2
 go_loopg [0, 3] k (fun kq v0 v3 w' => ∃ (x0_1 : Int) (x3_1 : List Int), v0 = .int .u64 x0_1 ∧ Sd (r2_Of.l0 kq x0_1 x3_1 = some r) ∧ Sd (kq ≤ k) ∧ Sd (Kd.R (Kd.int .u32) 83 w' w.heap.size (fun _ => True) v3 x3_1) ∧ Sd (Below w.heap.size w w'))
 case atStart => exact ⟨(a0), (([] : List Int)), sqE, H', ⟨Nat.le_refl _⟩, ⟨by first | exact Kd.R_nil _ _ _ _ _ | exact Kd.N_nil _ _ _ _ _ | exact Kd.V_nil _ _ _ _ _ | exact Kd.Q_nil _ _ _ _ _ | exact Kd.S_nil _ _ _ _ _⟩, ⟨sqB⟩⟩
 case round =>
  clear H'
  obtain ⟨x0_1, x3_1, rfl, HA, HK1, HO_3, HB⟩ := hrel
  cases gk with
  | zero => exact absurd HA.out (by simp [r2_Of.l0])
  | succ k1 =>
   have H := HA.out
   clear HA
   simp only [r2_Of.l0] at H
   by_cases c2 : x0_1 > 0
   case neg =>
    rw [if_neg c2] at H
    have c2b0 := decide_eq_false c2
    clear c2
    obtain rfl := Option.some.inj H
    go_wp2
    go_ret
    exact ⟨_, sqE', sqR HO_3.out, sqB⟩
   rw [if_pos c2] at H
   have c2b0 := decide_eq_true c2
   clear c2
   by_cases c3 : x3_1.length < 35184372088832
   case neg => rw [if_neg c3] at H; exact absurd H (by simp)
   rw [if_pos c3] at H
   have LMc3 := Sd.mk c3
   clear c3
   obtain ⟨y250, hy250⟩ : ∃ y_ : List Int, y_ = (x3_1 ++ [(Go.bits .and .u64 x0_1 65535) % 4294967296]) := ⟨_, rfl⟩
   replace H : (r2_Of.l0 k1 (x0_1 / 65536) y250) = some r := by first | (rw [hy250]; with_reducible exact H) | (have H2_ := (Option.bind_some _ _).symm.trans H; rw [hy250]; with_reducible exact H2_) | (have H2_ := (Option.bind_some _ _).symm.trans H; with_reducible exact H2_) | with_reducible exact H | (rw [hy250]; exact H) | exact H
   have Ny250 := Sd.mk hy250
   clear hy250
   have H' := Sd.mk H
   clear H
   go_wp2_with (first | ((with_reducible refine gate_builtin (b := .append) (xs := #[.tmp 6, .tmp 10]) rfl ?_); at_builtin; refine Kd.R_append (Kd.int .u32) (w0 := w) w.heap.size rfl (.tmp 6) (.tmp 10) 71 83 (.int .u32 0) 4 rfl Tryz.underlying71 info83 rfl (by decide) (by omega) u3 x3_1 ((Go.bits .and .u64 x0_1 65535) % 4294967296) [.int .u32 ((Go.bits .and .u64 x0_1 65535) % 4294967296)] (fun _ => True) (fun _ => False) rfl rfl ?aP (fun _ hk => hk.elim) ?aF ?aO ?aB ?aS ?aL ?_; (case aP => exact rfl); (case aB => exact sqB); (case aF => exact (fun _ _ => trivial)); (case aO => exact (sqR HO_3.out)); (case aS => exact (bsz sqB)); (case aL => have := LMc3.out; omega); intro v251 w4 ho hb hg hat; rw [← Ny250.out] at ho; have n0_ := Sd.mk (hb); have n1_ := Sd.mk (ho); clear HB; clear HO_3; have HB := n0_; have HO252 := n1_; clear n0_ n1_; clear ho hb hg hat))
   go_roundg k1
   case measure => have := HK1.out; omega
   case rel => exact ⟨(x0_1 / 65536), (y250), sqE, H', ⟨by have := HK1.out; omega⟩, ⟨sqR HO252.out⟩, ⟨sqB⟩⟩
def r2_Left.f (k : Nat) (l0 : List Int) (a1 : Int) : Option (List Int) := if (l0.length : Int) = 0 then (some ([] : List Int)) else (if 0 ≤ (wrap64 (Int.tdiv a1 16)) then (if (wrap64 (Int.tdiv a1 16) : Int).toNat ≤ 70368744177664 then ((some (List.replicate (wrap64 (Int.tdiv a1 16) : Int).toNat 0 : List Int)).bind fun y253 => (if 0 ≤ (IntKind.u64.wrap (Int.tmod a1 16)) then ((r2_Times.f k l0 (shl .u32 1 (IntKind.u64.wrap (Int.tmod a1 16))) 0).bind fun t256 => (if y253.length + t256.length < 35184372088832 then (some (y253 ++ t256)) else (none))) else (none))) else (none)) else (none))
theorem r2_Left.mono : ∀ a0 a1 k, LeO (r2_Left.f k a0 a1) (r2_Left.f (k + 1) a0 a1) := by
 intro a0 a1 k
 unfold r2_Left.f
 repeat' first | (with_reducible first | apply r2_Times.mono | apply LeO.refl | apply LeO.none | refine LeO.ite ?_ ?_ | refine LeO.bind ?_ (fun _ => ?_)) | apply LeO.none | refine LeO.ite ?_ ?_ | refine LeO.bind ?_ (fun _ => ?_)
theorem r2_Left.calls (k : Nat) (A0 : Option Addr) (c0 : Nat) (l0 : List Int) (a1 : Int) (r : List Int) (w : World) (hr0 : Kd.C (Kd.int .u32) w A0 l0.length l0) (hc0 : l0.length ≤ c0) (h : r2_Left.f k l0 a1 = some r) :
  Calls Tryz.prog 74 #[.slice A0 l0.length c0, .int .i64 a1] w fun e w' => ∃ v0_ : Value, e = .returned (v0_) ∧ Kd.R (Kd.int .u32) 83 w' w.heap.size (fun _ => True) v0_ r ∧ Below w.heap.size w w' := by
 have HR0 := Sd.mk hr0
 have HC0 := Sd.mk hc0
 clear hr0 hc0
 have HB := Sd.mk (Below.refl w.heap.size w)
 have H : (if (l0.length : Int) = 0 then (some ([] : List Int)) else (if 0 ≤ (wrap64 (Int.tdiv a1 16)) then (if (wrap64 (Int.tdiv a1 16) : Int).toNat ≤ 70368744177664 then ((some (List.replicate (wrap64 (Int.tdiv a1 16) : Int).toNat 0 : List Int)).bind fun y253 => (if 0 ≤ (IntKind.u64.wrap (Int.tmod a1 16)) then ((r2_Times.f k l0 (shl .u32 1 (IntKind.u64.wrap (Int.tmod a1 16))) 0).bind fun t256 => (if y253.length + t256.length < 35184372088832 then (some (y253 ++ t256)) else (none))) else (none))) else (none)) else (none))) = some r := h
 clear h
 by_cases c3 : (l0.length : Int) = 0
 ·rw [if_pos c3] at H
  have c3b0 := beq_iff_eq.mpr c3
  have c3b1 := bne_eq_false_iff_eq.mpr c3
  clear c3
  obtain rfl := Option.some.inj H
  go_enter Tryz.func74, Tryz.ntmps74
  go_wp2
  go_ret
  exact ⟨_, sqE', by first | exact Kd.R_nil _ _ _ _ _ | exact Kd.N_nil _ _ _ _ _ | exact Kd.V_nil _ _ _ _ _ | exact Kd.Q_nil _ _ _ _ _ | exact Kd.S_nil _ _ _ _ _, sqB⟩
 rw [if_neg c3] at H
 have c3b0 := beq_eq_false_iff_ne.mpr c3
 have c3b1 := bne_iff_ne.mpr c3
 have c3b2 : ¬ (l0 = []) := fun h_ => c3 (by rw [h_]; rfl)
 obtain ⟨ji4, hji4⟩ : ∃ j_ : Int, (wrap64 (Int.tdiv a1 16)) = j_ := ⟨_, rfl⟩
 replace H : (if 0 ≤ (ji4) then (if (ji4 : Int).toNat ≤ 70368744177664 then ((some (List.replicate (ji4 : Int).toNat 0 : List Int)).bind fun y253 => (if 0 ≤ (IntKind.u64.wrap (Int.tmod a1 16)) then ((r2_Times.f k l0 (shl .u32 1 (IntKind.u64.wrap (Int.tmod a1 16))) 0).bind fun t256 => (if y253.length + t256.length < 35184372088832 then (some (y253 ++ t256)) else (none))) else (none))) else (none)) else (none)) = some r := by first | (rw [hji4] at H; exact H) | (simp only [hji4] at H ⊢; exact H)
 have hji4w : (IntKind.i64.wrap (Int.tdiv a1 16)) = ji4 := (i64_w _).trans hji4
 by_cases c5 : 0 ≤ (ji4)
 case neg => rw [if_neg c5] at H; exact absurd H (by simp)
 rw [if_pos c5] at H
 have c5b0 := eq_true c5
 have c5b1 := decide_eq_true c5
 clear c5
 by_cases c6 : (ji4 : Int).toNat ≤ 70368744177664
 case neg => rw [if_neg c6] at H; exact absurd H (by simp)
 rw [if_pos c6] at H
 have c6b0 := eq_true c6
 have c6b1 := decide_eq_true c6
 clear c6
 obtain ⟨y253, hy253⟩ : ∃ y_ : List Int, y_ = (List.replicate (ji4 : Int).toNat 0) := ⟨_, rfl⟩
 replace H : (if 0 ≤ (IntKind.u64.wrap (Int.tmod a1 16)) then ((r2_Times.f k l0 (shl .u32 1 (IntKind.u64.wrap (Int.tmod a1 16))) 0).bind fun t256 => (if y253.length + t256.length < 35184372088832 then (some (y253 ++ t256)) else (none))) else (none)) = some r := by first | (rw [hy253]; with_reducible exact H) | (have H2_ := (Option.bind_some _ _).symm.trans H; rw [hy253]; with_reducible exact H2_) | (have H2_ := (Option.bind_some _ _).symm.trans H; with_reducible exact H2_) | with_reducible exact H | (rw [hy253]; exact H) | exact H
 have Ny253 := Sd.mk hy253
 clear hy253
 obtain ⟨ji7, hji7⟩ : ∃ j_ : Int, (IntKind.u64.wrap (Int.tmod a1 16)) = j_ := ⟨_, rfl⟩
 replace H : (if 0 ≤ (ji7) then ((r2_Times.f k l0 (shl .u32 1 (ji7)) 0).bind fun t256 => (if y253.length + t256.length < 35184372088832 then (some (y253 ++ t256)) else (none))) else (none)) = some r := by first | (rw [hji7] at H; exact H) | (simp only [hji7] at H ⊢; exact H)
 by_cases c8 : 0 ≤ (ji7)
 case neg => rw [if_neg c8] at H; exact absurd H (by simp)
 rw [if_pos c8] at H
 have c8b0 := eq_true c8
 have c8b1 := decide_eq_true c8
 clear c8
 obtain ⟨ji9, hji9⟩ : ∃ j_ : Int, (shl .u32 1 (ji7)) = j_ := ⟨_, rfl⟩
 replace H : ((r2_Times.f k l0 (ji9) 0).bind fun t256 => (if y253.length + t256.length < 35184372088832 then (some (y253 ++ t256)) else (none))) = some r := by first | (rw [hji9] at H; exact H) | (simp only [hji9] at H ⊢; exact H)
 have hji9_ : (IntKind.u32.wrap (1 * 2 ^ min (ji7).toNat 32)) = ji9 := hji9
 have hji9z : (ji7) ≤ 32 → (IntKind.u32.wrap (1 * 2 ^ (ji7).toNat)) = ji9 := shl_small hji9
 have hji9u : (IntKind.u32.wrap (2 ^ min (ji7).toNat 32)) = ji9 := by have h_ := hji9_; rw [Int.one_mul] at h_; exact h_
 have hji9v : (ji7) ≤ 32 → (IntKind.u32.wrap (2 ^ (ji7).toNat)) = ji9 := fun hle_ => by have h_ := hji9z hle_; rw [Int.one_mul] at h_; exact h_
 obtain ⟨t256, A10, H⟩ := sqO H
 try dsimp only at H
 by_cases c11 : y253.length + t256.length < 35184372088832
 case neg => rw [if_neg c11] at H; exact absurd H (by simp)
 rw [if_pos c11] at H
 have LMc11 := Sd.mk c11
 clear c11
 obtain ⟨y259, hy259⟩ : ∃ y_ : List Int, y_ = (y253 ++ t256) := ⟨_, rfl⟩
 replace H : (some y259) = some r := by first | (rw [hy259]; with_reducible exact H) | (have H2_ := (Option.bind_some _ _).symm.trans H; rw [hy259]; with_reducible exact H2_) | (have H2_ := (Option.bind_some _ _).symm.trans H; with_reducible exact H2_) | with_reducible exact H | (rw [hy259]; exact H) | exact H
 have Ny259 := Sd.mk hy259
 clear hy259
 obtain rfl := Option.some.inj H
 go_enter Tryz.func74, Tryz.ntmps74
 go_wp2_with (first | ((with_reducible refine gds (N := 11) rfl ?_); refine Kd.R_make (Kd.int .u32) _ 83 rfl (N := 11) rfl 71 _ _ rfl ji4 rfl rfl Tryz.underlying71 (.int .u32 0) 4 info83 rfl (by decide) (by omega) 0 (ok := fun _ => True) (okp := fun _ => True) rfl (fun _ hk => hk) trivial sqD (Nat.le_trans (Nat.mul_le_mul_right _ (sqD : ji4.toNat ≤ 70368744177664)) (by omega)) (Below.refl _ _) (Nat.le_refl _) ?_; intro v254 w12 ho13 hb hg_ hnew_; clear hg_ hnew_; (first | rw [← Ny253.out] at ho13 | (simp only [Int.reduceToNat] at ho13; rw [← Ny253.out] at ho13)); have n0_ := Sd.mk (Kd.R_lower ho13 (bsz sqB)); have n1_ := Sd.mk (bst sqB hb); clear HB; have HO255 := n0_; have HB := n1_; clear n0_ n1_; clear hb ho13) | ((with_reducible refine gcl (f := 61) rfl ?_); refine gL (some 18) rfl rfl Tryz.func61 (by kernel_rfl) rfl #[.slice A0 l0.length c0, .int .u32 ji9, .int .u32 0] rfl (by (try simp only [List.map_toArray, List.map_cons, List.map_nil]); first | done | (simp only [hji9]; rfl) | rfl | (simp only [List.length_drop, List.length_take]; rfl)) ?_; (with_reducible refine (r2_Times.calls k _ _ l0 ji9 0 t256 _ ?side1 ?side2 A10.out).mono ?_); (case side1 => repeat (first | exact (Kd.C_below HR0.out HB.out) | (with_reducible refine Kd.C_alloc ?_ _) | (with_reducible refine Kd.C_drewN ?_ _) | (with_reducible refine Kd.C_drew ?_))); (case side2 => exact HC0.out); rintro e w14 ⟨v257, rfl, ho0, hb⟩; refine ⟨_, rfl, ?_⟩; have n0_ := Sd.mk (Kd.R_elder' (sqR HO255.out) (Kd.R_base ho0) hb); have n1_ := Sd.mk (Kd.R_lower (Kd.R_new' ho0 (Kd.R_lt (sqR HO255.out))) (bsz sqB)); have n2_ := Sd.mk (bst sqB hb); clear HO255; clear HB; have HO255 := n0_; have HO258 := n1_; have HB := n2_; clear n0_ n1_ n2_; (try clear hb); (try clear hb2); (try clear hk); (try clear hi); (try clear ho0); obtain ⟨Ao16, co16, eo16⟩ := Kd.R_slice HO258.out; subst eo16) | ((with_reducible refine gate_builtin (b := .append) (xs := #[.tmp 12, .tmp 18]) rfl ?_); at_builtin; refine Kd.R_append_rows (Kd.int .u32) (w0 := w) w.heap.size rfl (.tmp 12) (.tmp 18) 71 83 (.int .u32 0) 4 rfl Tryz.underlying71 info83 rfl (by decide) (by omega) v254 y253 t256 _ _ _ (fun k_ => some k_ ≠ (.slice Ao16 t256.length co16 : Value).ownBlock) (fun _ => False) rfl rfl ?aO ?aR (fun _ _ h => h) (fun _ h => h.elim) ?aF ?aB ?aS ?aL ?_; (case aR => repeat (first | exact (Kd.R_reads' HO258.out).2.2 | (with_reducible refine Kd.C_alloc ?_ _) | (with_reducible refine Kd.C_drewN ?_ _) | (with_reducible refine Kd.C_drew ?_))); (case aB => exact sqB); (case aF => exact (fun k_ hk => Kd.fresh' (Kd.R_lt (sqR HO258.out)) k_ hk)); (case aO => exact (by (with_reducible repeat (first | apply Kd.R_alloc | apply Kd.R_drewN | apply Kd.R_drew)); exact Kd.R_mono HO255.out (fun _ hk => hk.2))); (case aS => exact (bsz sqB)); (case aL => have := LMc11.out; omega); intro v260 w15 ho hb hg hat; rw [← Ny259.out] at ho; have n0_ := Sd.mk (Kd.R_after (ok := (fun _ => True)) (sqR HO258.out) hg hat); have n1_ := Sd.mk (hb); have n2_ := Sd.mk (ho); clear HO258; clear HB; clear HO255; have HO258 := n0_; have HB := n1_; have HO261 := n2_; clear n0_ n1_ n2_; clear ho hb hg hat))
 go_ret
 exact ⟨_, by first | rfl | (simp [errW_none, errW_some] <;> rfl) | (simp only [← hji4, ← hji7, ← hji9]; first | rfl | (simp [errW_none, errW_some] <;> rfl)) | (simp [*, errW_none, errW_some] <;> rfl), by (with_reducible repeat (first | apply Kd.R_alloc | apply Kd.R_drewN | apply Kd.R_drew)); exact Kd.R_mono HO261.out (fun _ hk => trivial), sqB⟩
def r2_Length.l0 : Nat → Int → Int → Option (Int)
 | 0, _, _ => none
 | k + 1, x3, x4 => if x4 > 0 then (r2_Length.l0 k (wrap64 (x3 + 1)) (x4 / 2)) else (some x3)
def r2_Length.f (k : Nat) (l0 : List Int) : Option (Int) := if (l0.length : Int) = 0 then (some 0) else (if 0 ≤ (wrap64 ((l0.length : Int) - 1)) then (if (wrap64 ((l0.length : Int) - 1)) < (l0.length : Int) then (r2_Length.l0 k (wrap64 (16 * (wrap64 ((l0.length : Int) - 1)))) (rd l0 (wrap64 ((l0.length : Int) - 1)))) else (none)) else (none))
theorem r2_Length.mono_l : ∀ k, (∀ y0 y1, LeO (r2_Length.l0 k y0 y1) (r2_Length.l0 (k + 1) y0 y1))
 | 0 => fun _ _ r h => by simp [r2_Length.l0] at h
 | k + 1 => by
  have ih0 := r2_Length.mono_l k
  intro y0 y1
  unfold r2_Length.l0
  repeat' first | (with_reducible first | apply ih0 | apply LeO.refl | apply LeO.none | refine LeO.ite ?_ ?_ | refine LeO.bind ?_ (fun _ => ?_)) | apply LeO.none | refine LeO.ite ?_ ?_ | refine LeO.bind ?_ (fun _ => ?_)
theorem r2_Length.mono : ∀ a0 k, LeO (r2_Length.f k a0) (r2_Length.f (k + 1) a0) := by
 intro a0 k
 have ih0 := r2_Length.mono_l k
 unfold r2_Length.f
 repeat' first | (with_reducible first | apply ih0 | apply LeO.refl | apply LeO.none | refine LeO.ite ?_ ?_ | refine LeO.bind ?_ (fun _ => ?_)) | apply LeO.none | refine LeO.ite ?_ ?_ | refine LeO.bind ?_ (fun _ => ?_)
theorem r2_Length.calls (k : Nat) (A0 : Option Addr) (c0 : Nat) (l0 : List Int) (r : Int) (w : World) (hr0 : Kd.C (Kd.int .u32) w A0 l0.length l0) (hc0 : l0.length ≤ c0) (h : r2_Length.f k l0 = some r) :
  Calls Tryz.prog 75 #[.slice A0 l0.length c0] w fun e w' => e = .returned (.int .i64 r) ∧ Drawn0 w w' := by
 have HR0 := Sd.mk hr0
 have HC0 := Sd.mk hc0
 clear hr0 hc0
 have H : (if (l0.length : Int) = 0 then (some 0) else (if 0 ≤ (wrap64 ((l0.length : Int) - 1)) then (if (wrap64 ((l0.length : Int) - 1)) < (l0.length : Int) then (r2_Length.l0 k (wrap64 (16 * (wrap64 ((l0.length : Int) - 1)))) (rd l0 (wrap64 ((l0.length : Int) - 1)))) else (none)) else (none))) = some r := h
 clear h
 by_cases c2 : (l0.length : Int) = 0
 ·rw [if_pos c2] at H
  have c2b0 := beq_iff_eq.mpr c2
  have c2b1 := bne_eq_false_iff_eq.mpr c2
  clear c2
  obtain rfl := Option.some.inj H
  go_enter Tryz.func75, Tryz.ntmps75
  go_wp2
  go_ret
  exact ⟨sqE, sqW⟩
 rw [if_neg c2] at H
 have c2b0 := beq_eq_false_iff_ne.mpr c2
 have c2b1 := bne_iff_ne.mpr c2
 have c2b2 : ¬ (l0 = []) := fun h_ => c2 (by rw [h_]; rfl)
 obtain ⟨ji3, hji3⟩ : ∃ j_ : Int, (wrap64 ((l0.length : Int) - 1)) = j_ := ⟨_, rfl⟩
 replace H : (if 0 ≤ (ji3) then (if (ji3) < (l0.length : Int) then (r2_Length.l0 k (wrap64 (16 * (ji3))) (rd l0 (ji3))) else (none)) else (none)) = some r := by first | (rw [hji3] at H; exact H) | (simp only [hji3] at H ⊢; exact H)
 have hji3w : (IntKind.i64.wrap ((l0.length : Int) - 1)) = ji3 := (i64_w _).trans hji3
 by_cases c4 : 0 ≤ (ji3)
 case neg => rw [if_neg c4] at H; exact absurd H (by simp)
 rw [if_pos c4] at H
 have c4b0 := decide_eq_true c4
 clear c4
 by_cases c5 : (ji3) < (l0.length : Int)
 case neg => rw [if_neg c5] at H; exact absurd H (by simp)
 rw [if_pos c5] at H
 have c5b0 := decide_eq_true c5
 clear c5
 have H' := Sd.mk H
 clear H
 have p262 : 0 ≤ ((ji3) : Int) := sqD
 have q262 : (ji3) < (l0.length : Int) := sqD
 obtain ⟨ad262, e262, hx262_0⟩ := Kd.at_int HR0.out (ji3) p262 q262
 cases e262
 replace p262 := eq_true p262
 replace q262 := eq_true q262
 go_enter Tryz.func75, Tryz.ntmps75
 go_wp2
 go_loopg [3, 4] k (fun kq v3 v4 w' => ∃ (x3_1 : Int) (x4_1 : Int), v3 = .int .i64 x3_1 ∧ v4 = .int .u32 x4_1 ∧ Sd (r2_Length.l0 kq x3_1 x4_1 = some r) ∧ Sd (kq ≤ k) ∧ Drawn0 w w')
 case atStart => exact ⟨(wrap64 (16 * (ji3))), (rd l0 (ji3)), (by first | rfl | (simp; done) | (simp only [← hji3] <;> (first | rfl | simp)) | (simp [*]; done)), (by first | rfl | (simp; done) | (simp only [← hji3] <;> (first | rfl | simp)) | (simp [*]; done)), H', ⟨Nat.le_refl _⟩, sqW⟩
 case round =>
  clear H'
  try clear c2
  try clear c2b0
  try clear c2b1
  try clear c2b2
  try clear p2
  try clear q2
  try clear hx2
  try clear c4
  try clear c4b0
  try clear c5
  try clear c5b0
  try clear hx262_0
  try clear p262
  try clear q262
  obtain ⟨x3_1, x4_1, rfl, rfl, HA, HK1, ⟨m1, rfl⟩⟩ := hrel
  cases gk with
  | zero => exact absurd HA.out (by simp [r2_Length.l0])
  | succ k1 =>
   have H := HA.out
   clear HA
   simp only [r2_Length.l0] at H
   by_cases c6 : x4_1 > 0
   case neg =>
    rw [if_neg c6] at H
    have c6b0 := decide_eq_false c6
    clear c6
    obtain rfl := Option.some.inj H
    go_wp2
    go_ret
    exact ⟨by first | rfl | (simp; done) | (simp only [← hji3] <;> (first | rfl | simp)) | (simp [*]; done), sqW⟩
   rw [if_pos c6] at H
   have c6b0 := decide_eq_true c6
   clear c6
   have H' := Sd.mk H
   clear H
   go_wp2
   go_roundg k1
   case measure => have := HK1.out; omega
   case rel => exact ⟨(wrap64 (x3_1 + 1)), (x4_1 / 2), sqE, sqE, H', ⟨by have := HK1.out; omega⟩, sqW⟩
def r2_Cmp.l0 : Nat → List Int → List Int → Int → Option (Int)
 | 0, _, _, _ => none
 | k + 1, x0, x1, x5 => if x5 ≥ 0 then (if 0 ≤ x5 then (if x5 < (x0.length : Int) then (if x5 < (x1.length : Int) then (if (rd x0 x5) < (rd x1 x5) then (some (-1)) else (if (rd x0 x5) > (rd x1 x5) then (some 1) else (r2_Cmp.l0 k x0 x1 (wrap64 (x5 - 1))))) else (none)) else (none)) else (none)) else (some 0)
def r2_Cmp.f (k : Nat) (l0 : List Int) (l1 : List Int) : Option (Int) := if (l0.length : Int) = (l1.length : Int) then (r2_Cmp.l0 k l0 l1 (wrap64 ((l0.length : Int) - 1))) else (if (l0.length : Int) < (l1.length : Int) then (some (-1)) else (some 1))
theorem r2_Cmp.mono_l : ∀ k, (∀ y0 y1 y2, LeO (r2_Cmp.l0 k y0 y1 y2) (r2_Cmp.l0 (k + 1) y0 y1 y2))
 | 0 => fun _ _ _ r h => by simp [r2_Cmp.l0] at h
 | k + 1 => by
  have ih0 := r2_Cmp.mono_l k
  intro y0 y1 y2
  unfold r2_Cmp.l0
  repeat' first | (with_reducible first | apply ih0 | apply LeO.refl | apply LeO.none | refine LeO.ite ?_ ?_ | refine LeO.bind ?_ (fun _ => ?_)) | apply LeO.none | refine LeO.ite ?_ ?_ | refine LeO.bind ?_ (fun _ => ?_)
theorem r2_Cmp.mono : ∀ a0 a1 k, LeO (r2_Cmp.f k a0 a1) (r2_Cmp.f (k + 1) a0 a1) := by
 intro a0 a1 k
 have ih0 := r2_Cmp.mono_l k
 unfold r2_Cmp.f
 repeat' first | (with_reducible first | apply ih0 | apply LeO.refl | apply LeO.none | refine LeO.ite ?_ ?_ | refine LeO.bind ?_ (fun _ => ?_)) | apply LeO.none | refine LeO.ite ?_ ?_ | refine LeO.bind ?_ (fun _ => ?_)
theorem r2_Cmp.calls (k : Nat) (A0 : Option Addr) (c0 : Nat) (l0 : List Int) (A1 : Option Addr) (c1 : Nat) (l1 : List Int) (r : Int) (w : World) (hr0 : Kd.C (Kd.int .u32) w A0 l0.length l0) (hc0 : l0.length ≤ c0) (hr1 : Kd.C (Kd.int .u32) w A1 l1.length l1) (hc1 : l1.length ≤ c1) (h : r2_Cmp.f k l0 l1 = some r) :
  Calls Tryz.prog 80 #[.slice A0 l0.length c0, .slice A1 l1.length c1] w fun e w' => e = .returned (.int .i64 r) ∧ Drawn0 w w' := by
 have HR0 := Sd.mk hr0
 have HC0 := Sd.mk hc0
 clear hr0 hc0
 have HR1 := Sd.mk hr1
 have HC1 := Sd.mk hc1
 clear hr1 hc1
 have H : (if (l0.length : Int) = (l1.length : Int) then (r2_Cmp.l0 k l0 l1 (wrap64 ((l0.length : Int) - 1))) else (if (l0.length : Int) < (l1.length : Int) then (some (-1)) else (some 1))) = some r := h
 clear h
 by_cases c3 : (l0.length : Int) = (l1.length : Int)
 case neg =>
  rw [if_neg c3] at H
  have c3b0 := beq_eq_false_iff_ne.mpr c3
  have c3b1 := bne_iff_ne.mpr c3
  have c3b2 : (l0.length == l1.length) = false := by first | simpa using c3 | (simp at c3 ⊢; omega)
  by_cases c10 : (l0.length : Int) < (l1.length : Int)
  ·rw [if_pos c10] at H
   have c10b0 := decide_eq_true c10
   have c10b1 : decide (l0.length < l1.length) = true := decide_eq_true (Int.ofNat_lt.mp c10)
   clear c10
   obtain rfl := Option.some.inj H
   go_enter Tryz.func80, Tryz.ntmps80
   go_wp2
   repeat (go_quiet (fail); try go_wp2)
   go_ret
   exact ⟨sqE, sqW⟩
  rw [if_neg c10] at H
  have c10b0 := decide_eq_false c10
  have c10b1 : decide (l0.length < l1.length) = false := decide_eq_false (fun h => c10 (Int.ofNat_lt.mpr h))
  clear c10
  obtain rfl := Option.some.inj H
  go_enter Tryz.func80, Tryz.ntmps80
  go_wp2
  repeat (go_quiet (fail); try go_wp2)
  go_ret
  exact ⟨sqE, sqW⟩
 rw [if_pos c3] at H
 have c3b0 := beq_iff_eq.mpr c3
 have c3b1 := bne_eq_false_iff_eq.mpr c3
 have c3b2 : (l0.length == l1.length) = true := by first | simpa using c3 | (simp at c3 ⊢; omega)
 clear c3
 have H' := Sd.mk H
 clear H
 go_enter Tryz.func80, Tryz.ntmps80
 go_wp2
 repeat (go_quiet (fail); try go_wp2)
 go_loopg [5] k (fun kq v5 w' => ∃ (x5_1 : Int), v5 = .int .i64 x5_1 ∧ Sd (r2_Cmp.l0 kq l0 l1 x5_1 = some r) ∧ Sd (kq ≤ k) ∧ Drawn0 w w')
 case atStart => exact ⟨(wrap64 ((l0.length : Int) - 1)), sqE, H', ⟨Nat.le_refl _⟩, sqW⟩
 case round =>
  clear H'
  try clear c1
  try clear p2
  try clear c3
  try clear c3b0
  try clear c3b1
  try clear c3b2
  obtain ⟨x5_1, rfl, HA, HK1, ⟨m1, rfl⟩⟩ := hrel
  cases gk with
  | zero => exact absurd HA.out (by simp [r2_Cmp.l0])
  | succ k1 =>
   have H := HA.out
   clear HA
   simp only [r2_Cmp.l0] at H
   by_cases c4 : x5_1 ≥ 0
   case neg =>
    rw [if_neg c4] at H
    have c4b0 := decide_eq_false c4
    clear c4
    obtain rfl := Option.some.inj H
    go_wp2
    repeat (go_quiet (fail); try go_wp2)
    go_ret
    exact ⟨sqE, sqW⟩
   rw [if_pos c4] at H
   have c4b0 := decide_eq_true c4
   clear c4
   by_cases c5 : 0 ≤ x5_1
   case neg => rw [if_neg c5] at H; exact absurd H (by simp)
   rw [if_pos c5] at H
   have c5b0 := decide_eq_true c5
   clear c5
   by_cases c6 : x5_1 < (l0.length : Int)
   case neg => rw [if_neg c6] at H; exact absurd H (by simp)
   rw [if_pos c6] at H
   have c6b0 := decide_eq_true c6
   clear c6
   by_cases c7 : x5_1 < (l1.length : Int)
   case neg => rw [if_neg c7] at H; exact absurd H (by simp)
   rw [if_pos c7] at H
   have c7b0 := decide_eq_true c7
   clear c7
   by_cases c8 : (rd l0 x5_1) < (rd l1 x5_1)
   ·rw [if_pos c8] at H
    have c8b0 := decide_eq_true c8
    clear c8
    obtain rfl := Option.some.inj H
    have p263 : 0 ≤ (x5_1 : Int) := sqD
    have q263 : x5_1 < (l0.length : Int) := sqD
    obtain ⟨ad263, e263, hx263_0⟩ := Kd.at_int HR0.out x5_1 p263 q263
    cases e263
    replace p263 := eq_true p263
    replace q263 := eq_true q263
    have p264 : 0 ≤ (x5_1 : Int) := sqD
    have q264 : x5_1 < (l1.length : Int) := sqD
    obtain ⟨ad264, e264, hx264_0⟩ := Kd.at_int HR1.out x5_1 p264 q264
    cases e264
    replace p264 := eq_true p264
    replace q264 := eq_true q264
    go_wp2
    repeat (go_quiet (fail); try go_wp2)
    go_ret
    exact ⟨sqE, sqW⟩
   rw [if_neg c8] at H
   have c8b0 := decide_eq_false c8
   clear c8
   by_cases c9 : (rd l0 x5_1) > (rd l1 x5_1)
   ·rw [if_pos c9] at H
    have c9b0 := decide_eq_true c9
    clear c9
    obtain rfl := Option.some.inj H
    have p263 : 0 ≤ (x5_1 : Int) := sqD
    have q263 : x5_1 < (l0.length : Int) := sqD
    obtain ⟨ad263, e263, hx263_0⟩ := Kd.at_int HR0.out x5_1 p263 q263
    cases e263
    replace p263 := eq_true p263
    replace q263 := eq_true q263
    have p264 : 0 ≤ (x5_1 : Int) := sqD
    have q264 : x5_1 < (l1.length : Int) := sqD
    obtain ⟨ad264, e264, hx264_0⟩ := Kd.at_int HR1.out x5_1 p264 q264
    cases e264
    replace p264 := eq_true p264
    replace q264 := eq_true q264
    have p265 : 0 ≤ (x5_1 : Int) := sqD
    have q265 : x5_1 < (l0.length : Int) := sqD
    obtain ⟨ad265, e265, hx265_0⟩ := Kd.at_int HR0.out x5_1 p265 q265
    obtain rfl : ad263 = ad265 := (by injection e265)
    replace p265 := eq_true p265
    replace q265 := eq_true q265
    have p266 : 0 ≤ (x5_1 : Int) := sqD
    have q266 : x5_1 < (l1.length : Int) := sqD
    obtain ⟨ad266, e266, hx266_0⟩ := Kd.at_int HR1.out x5_1 p266 q266
    obtain rfl : ad264 = ad266 := (by injection e266)
    replace p266 := eq_true p266
    replace q266 := eq_true q266
    go_wp2
    repeat (go_quiet (fail); try go_wp2)
    go_ret
    exact ⟨sqE, sqW⟩
   rw [if_neg c9] at H
   have c9b0 := decide_eq_false c9
   clear c9
   have H' := Sd.mk H
   clear H
   have p263 : 0 ≤ (x5_1 : Int) := sqD
   have q263 : x5_1 < (l0.length : Int) := sqD
   obtain ⟨ad263, e263, hx263_0⟩ := Kd.at_int HR0.out x5_1 p263 q263
   cases e263
   replace p263 := eq_true p263
   replace q263 := eq_true q263
   have p264 : 0 ≤ (x5_1 : Int) := sqD
   have q264 : x5_1 < (l1.length : Int) := sqD
   obtain ⟨ad264, e264, hx264_0⟩ := Kd.at_int HR1.out x5_1 p264 q264
   cases e264
   replace p264 := eq_true p264
   replace q264 := eq_true q264
   have p265 : 0 ≤ (x5_1 : Int) := sqD
   have q265 : x5_1 < (l0.length : Int) := sqD
   obtain ⟨ad265, e265, hx265_0⟩ := Kd.at_int HR0.out x5_1 p265 q265
   obtain rfl : ad263 = ad265 := (by injection e265)
   replace p265 := eq_true p265
   replace q265 := eq_true q265
   have p266 : 0 ≤ (x5_1 : Int) := sqD
   have q266 : x5_1 < (l1.length : Int) := sqD
   obtain ⟨ad266, e266, hx266_0⟩ := Kd.at_int HR1.out x5_1 p266 q266
   obtain rfl : ad264 = ad266 := (by injection e266)
   replace p266 := eq_true p266
   replace q266 := eq_true q266
   go_wp2
   repeat (go_quiet (fail); try go_wp2)
   go_roundg k1
   case measure => have := HK1.out; omega
   case rel => exact ⟨(wrap64 (x5_1 - 1)), sqE, H', ⟨by have := HK1.out; omega⟩, sqW⟩
end Go.Proofs.YtfmjdoofopamkaaGreatDoor.W
