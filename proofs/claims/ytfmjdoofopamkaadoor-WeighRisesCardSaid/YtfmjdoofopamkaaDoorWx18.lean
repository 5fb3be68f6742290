-- written by wip/pp.py of this session (the kit's print with patches); checked by Lean alone
import Derived.Test.YtfmjdoofopamkaaDoorWx0
namespace Go.Proofs.YtfmjdoofopamkaaDoor.W
open Go.RowKit Go.Proofs.YtfmjdoofopamkaaDoorW.PrintWords Go.Proofs.YtfmjdoofopamkaaDoorW.PrintLast Go.Proofs.YtfmjdoofopamkaaDoorW.PrintMore
attribute [local go_sem] max2_int min2_int max_two min_two max_three min_three max_four min_four   -- for this text's walks alone
set_option linter.unusedVariables false
set_option linter.unusedSimpArgs false

/-! ### endonymref2_trim: function 81 -/
def endonymref2_trim.l0 : Nat → List Int → Int → Option (List Int)
 | 0, _, _ => none
 | k + 1, x0, x3 => if x3 > 0 then (if 0 ≤ (wrap64 (x3 - 1)) then (if (wrap64 (x3 - 1)) < (x0.length : Int) then (if (rd x0 (wrap64 (x3 - 1))) = 0 then (endonymref2_trim.l0 k x0 (wrap64 (x3 - 1))) else (if 0 ≤ x3 then (if x3 ≤ (x0.length : Int) then (some (x0.take (x3 : Int).toNat)) else (none)) else (none))) else (none)) else (none)) else (if 0 ≤ x3 then (if x3 ≤ (x0.length : Int) then (some (x0.take (x3 : Int).toNat)) else (none)) else (none))
def endonymref2_trim.f (k : Nat) (l0 : List Int) : Option (List Int) := endonymref2_trim.l0 k l0 (l0.length : Int)
theorem endonymref2_trim.mono_l : ∀ k, (∀ y0 y1, LeO (endonymref2_trim.l0 k y0 y1) (endonymref2_trim.l0 (k + 1) y0 y1))
 | 0 => fun _ _ r h => by simp [endonymref2_trim.l0] at h
 | k + 1 => by
  have ih0 := endonymref2_trim.mono_l k
  ·
   intro y0 y1
   unfold endonymref2_trim.l0
   repeat' first | (with_reducible first | apply ih0 | apply LeO.refl | apply LeO.none | refine LeO.ite ?_ ?_ | refine LeO.bind ?_ (fun _ => ?_)) | apply ih0 | apply LeO.none | refine LeO.ite ?_ ?_ | refine LeO.bind ?_ (fun _ => ?_)
theorem endonymref2_trim.mono : ∀ a0 k, LeO (endonymref2_trim.f k a0) (endonymref2_trim.f (k + 1) a0) := by
 intro a0 k
 have ih0 := endonymref2_trim.mono_l k
 unfold endonymref2_trim.f
 repeat' first | (with_reducible first | apply ih0 | apply LeO.refl | apply LeO.none | refine LeO.ite ?_ ?_ | refine LeO.bind ?_ (fun _ => ?_)) | apply ih0 | apply LeO.none | refine LeO.ite ?_ ?_ | refine LeO.bind ?_ (fun _ => ?_)
set_option maxHeartbeats 8000000 in
set_option maxRecDepth 100000 in
theorem endonymref2_trim.calls (k : Nat) (P0_ : Nat → Prop) (u9000_ : Value) (l0 : List Int) (r : List Int) (w0 w : World) (hB : Below w0.heap.size w0 w) (ho0 : Kd.R (Kd.int .u32) 84 w w0.heap.size P0_ u9000_ l0) (h : endonymref2_trim.f k l0 = some r) :
  Calls Tryd.prog 81 #[u9000_] w fun e w' => ∃ v0_ : Value, e = .returned (v0_) ∧ Kd.R (Kd.int .u32) 84 w' w0.heap.size (fun k_ => (P0_ k_ ∨ w.heap.size ≤ k_)) v0_ r ∧ Below w0.heap.size w0 w' ∧ Kept w w' (fun k_ => P0_ k_) := by
 have HO0 := Aside0.mk (show Kd.R (Kd.int .u32) 84 w w0.heap.size (fun k_ => (P0_ k_ ∨ w.heap.size ≤ k_)) u9000_ l0 from Kd.R_mono ho0 (fun k_ hk => (.inl hk)))
 have HK := Aside0.mk (Kept.refl w (fun k_ => P0_ k_))
 have HW0 := Aside0.mk hB.size
 have HB := Aside0.mk hB
 clear hB
 have H : (endonymref2_trim.l0 k l0 (l0.length : Int)) = some r := h
 clear h
 have H' := Aside0.mk H
 clear H
 obtain ⟨Ao2, co2, eo2⟩ := Kd.R_slice HO0.out
 subst eo2
 go_enter Tryd.func81, Tryd.ntmps81
 go_wp2
 go_loopg [3] k (fun kq v3 w' => ∃ (x3_1 : Int), v3 = .int .i64 x3_1 ∧ Aside0 (endonymref2_trim.l0 kq l0 x3_1 = some r) ∧ Aside0 (kq ≤ k) ∧ Aside0 (Kd.R (Kd.int .u32) 84 w' w0.heap.size (fun k_ => (P0_ k_ ∨ w.heap.size ≤ k_)) (.slice Ao2 l0.length co2) l0) ∧ Aside0 (Kept w w' (fun k_ => P0_ k_)) ∧ Aside0 (Below w0.heap.size w0 w'))
 case atStart => exact ⟨((l0.length : Int)), sqE, H', ⟨Nat.le_refl _⟩, ⟨sqR HO0.out⟩, ⟨by repeat (first | (with_reducible first | exact HK.out | apply Kept.alloc | apply Kept.drewN | apply Kept.drew) | exact HK.out)⟩, ⟨sqB⟩⟩
 case round =>
  clear H'
  try clear p2
  obtain ⟨x3_1, rfl, HA, HK1, HO_0, HK, HB⟩ := hrel
  cases gk with
  | zero => exact absurd HA.out (by simp [endonymref2_trim.l0])
  | succ k1 =>
   have H := HA.out
   clear HA
   simp only [endonymref2_trim.l0] at H
   by_cases c3 : x3_1 > 0
   ·
    rw [if_pos c3] at H
    have c3b0 := decide_eq_true c3
    clear c3
    obtain ⟨ji4, hji4⟩ : ∃ j_ : Int, (wrap64 (x3_1 - 1)) = j_ := ⟨_, rfl⟩
    replace H : (if 0 ≤ (ji4) then (if (ji4) < (l0.length : Int) then (if (rd l0 (ji4)) = 0 then (endonymref2_trim.l0 k1 l0 ji4) else (if 0 ≤ x3_1 then (if x3_1 ≤ (l0.length : Int) then (some (l0.take (x3_1 : Int).toNat)) else (none)) else (none))) else (none)) else (none)) = some r := by first | (rw [hji4] at H; exact H) | (simp only [hji4] at H ⊢; exact H)
    have hji4w : (IntKind.i64.wrap (x3_1 - 1)) = ji4 := (i64_w _).trans hji4
    by_cases c5 : 0 ≤ (ji4)
    ·
     rw [if_pos c5] at H
     have c5b0 := decide_eq_true c5
     clear c5
     by_cases c6 : (ji4) < (l0.length : Int)
     ·
      rw [if_pos c6] at H
      have c6b0 := decide_eq_true c6
      clear c6
      by_cases c7 : (rd l0 (ji4)) = 0
      ·
       rw [if_pos c7] at H
       have c7b0 := beq_iff_eq.mpr c7
       have c7b1 := bne_eq_false_iff_eq.mpr c7
       clear c7
       have H' := Aside0.mk H
       clear H
       have p523 : 0 ≤ ((ji4) : Int) := sqD
       have q523 : (ji4) < (l0.length : Int) := sqD
       obtain ⟨ad523, e523, hx523_0⟩ := Kd.at_int (Kd.R_reads' HO_0.out).2.2 (ji4) p523 q523
       cases e523
       replace p523 := eq_true p523
       replace q523 := eq_true q523
       go_wp2
       go_roundg k1
       case measure => have := HK1.out; omega
       case rel => exact ⟨(ji4), (by first | rfl | (simp; done) | (simp only [← hji4] <;> (first | rfl | simp)) | (simp [*]; done)), H', ⟨by have := HK1.out; omega⟩, ⟨sqR HO_0.out⟩, ⟨by repeat (first | (with_reducible first | exact HK.out | apply Kept.alloc | apply Kept.drewN | apply Kept.drew) | exact HK.out)⟩, ⟨sqB⟩⟩
      ·
       rw [if_neg c7] at H
       have c7b0 := beq_eq_false_iff_ne.mpr c7
       have c7b1 := bne_iff_ne.mpr c7
       by_cases c8 : 0 ≤ x3_1
       ·
        rw [if_pos c8] at H
        have c8b0 := eq_true c8
        have c8b1 := decide_eq_true c8
        clear c8
        by_cases c9 : x3_1 ≤ (l0.length : Int)
        ·
         rw [if_pos c9] at H
         have c9b0 := eq_true c9
         have c9b1 := decide_eq_true c9
         clear c9
         obtain ⟨y524, hy524⟩ : ∃ y_ : List Int, y_ = (l0.take (x3_1 : Int).toNat) := ⟨_, rfl⟩
         replace H : (some y524) = some r := by first | (rw [hy524]; with_reducible exact H) | (have H2_ := (Option.bind_some _ _).symm.trans H; rw [hy524]; with_reducible exact H2_) | (have H2_ := (Option.bind_some _ _).symm.trans H; with_reducible exact H2_) | with_reducible exact H | (rw [hy524]; exact H) | exact H
         have Ny524 := Aside0.mk hy524
         clear hy524
         obtain rfl := Option.some.inj H
         have p523 : 0 ≤ ((ji4) : Int) := sqD
         have q523 : (ji4) < (l0.length : Int) := sqD
         obtain ⟨ad523, e523, hx523_0⟩ := Kd.at_int (Kd.R_reads' HO_0.out).2.2 (ji4) p523 q523
         cases e523
         replace p523 := eq_true p523
         replace q523 := eq_true q523
         have q10 : (x3_1 : Int) ≤ ((l0.length : Int) : Int) := sqD
         obtain ⟨i010, hi010, _, hsz10, _⟩ := info_parts info84
         have hcut10 := cut_to (P := Tryd.prog) 55 84 .i64 Tryd.underlying55 hi010 (some ad523) l0.length co2 x3_1 sqD q10 (Kd.R_reads' HO_0.out).2.1
         have hr10 := Kd.R_take (m := (x3_1 : Int).toNat) HO_0.out (by omega)
         have hy10 : y524.length = (x3_1 : Int).toNat := (by rw [Ny524.out, List.length_take]; omega)
         rw [← Ny524.out] at hr10
         rw [← hy10] at hr10 hcut10
         clear hy10 hi010 hsz10 HO_0
         have HO526 := Aside0.mk hr10
         clear hr10
         replace q10 := eq_true q10
         go_wp2
         go_ret
         exact ⟨_, by first | rfl | (simp [errW_none, errW_some] <;> rfl) | (simp only [← hji4]; first | rfl | (simp [errW_none, errW_some] <;> rfl)) | (simp [*, errW_none, errW_some] <;> rfl), sqR HO526.out, sqB, by repeat (first | (with_reducible first | exact HK.out | apply Kept.alloc | apply Kept.drewN | apply Kept.drew) | exact HK.out)⟩
        ·
         rw [if_neg c9] at H
         exact absurd H (by simp)
       ·
        rw [if_neg c8] at H
        exact absurd H (by simp)
     ·
      rw [if_neg c6] at H
      exact absurd H (by simp)
    ·
     rw [if_neg c5] at H
     exact absurd H (by simp)
   ·
    rw [if_neg c3] at H
    have c3b0 := decide_eq_false c3
    clear c3
    by_cases c11 : 0 ≤ x3_1
    ·
     rw [if_pos c11] at H
     have c11b0 := eq_true c11
     have c11b1 := decide_eq_true c11
     clear c11
     by_cases c12 : x3_1 ≤ (l0.length : Int)
     ·
      rw [if_pos c12] at H
      have c12b0 := eq_true c12
      have c12b1 := decide_eq_true c12
      clear c12
      obtain ⟨y527, hy527⟩ : ∃ y_ : List Int, y_ = (l0.take (x3_1 : Int).toNat) := ⟨_, rfl⟩
      replace H : (some y527) = some r := by first | (rw [hy527]; with_reducible exact H) | (have H2_ := (Option.bind_some _ _).symm.trans H; rw [hy527]; with_reducible exact H2_) | (have H2_ := (Option.bind_some _ _).symm.trans H; with_reducible exact H2_) | with_reducible exact H | (rw [hy527]; exact H) | exact H
      have Ny527 := Aside0.mk hy527
      clear hy527
      obtain rfl := Option.some.inj H
      have q13 : (x3_1 : Int) ≤ ((l0.length : Int) : Int) := sqD
      obtain ⟨i013, hi013, _, hsz13, _⟩ := info_parts info84
      have hcut13 := cut_to (P := Tryd.prog) 55 84 .i64 Tryd.underlying55 hi013 Ao2 l0.length co2 x3_1 sqD q13 (Kd.R_reads' HO_0.out).2.1
      have hr13 := Kd.R_take (m := (x3_1 : Int).toNat) HO_0.out (by omega)
      have hy13 : y527.length = (x3_1 : Int).toNat := (by rw [Ny527.out, List.length_take]; omega)
      rw [← Ny527.out] at hr13
      rw [← hy13] at hr13 hcut13
      clear hy13 hi013 hsz13 HO_0
      have HO529 := Aside0.mk hr13
      clear hr13
      replace q13 := eq_true q13
      go_wp2
      go_ret
      exact ⟨_, sqE', sqR HO529.out, sqB, by repeat (first | (with_reducible first | exact HK.out | apply Kept.alloc | apply Kept.drewN | apply Kept.drew) | exact HK.out)⟩
     ·
      rw [if_neg c12] at H
      exact absurd H (by simp)
    ·
     rw [if_neg c11] at H
     exact absurd H (by simp)

/-! ### endonymref2_Times: function 53 -/
mutual
def endonymref2_Times.l0 : Nat → List Int → Int → List Int → Int → Int → Option (List Int)
 | 0, _, _, _, _, _ => none
 | k + 1, x0, x1, x7, x8, x9 => if x9 < (x0.length : Int) then (if 0 ≤ x9 then (if x7.length < 35184372088832 then (endonymref2_Times.l0 k x0 x1 (x7 ++ [Go.bits .and .u32 ((x8 + (((rd x0 x9) * x1))) % 4294967296) 65535]) (((x8 + (((rd x0 x9) * x1))) % 4294967296) / 65536) (wrap64 (x9 + 1))) else (none)) else (none)) else (endonymref2_Times.l1 k x7 x8)
def endonymref2_Times.l1 : Nat → List Int → Int → Option (List Int)
 | 0, _, _ => none
 | k + 1, x7, x8 => if x8 > 0 then (if x7.length < 35184372088832 then (endonymref2_Times.l1 k (x7 ++ [Go.bits .and .u32 x8 65535]) (x8 / 65536)) else (none)) else ((endonymref2_trim.f k x7).bind fun t537 => (some t537))
end
def endonymref2_Times.f (k : Nat) (l0 : List Int) (a1 : Int) (a2 : Int) : Option (List Int) := endonymref2_Times.l0 k l0 a1 ([] : List Int) a2 0
theorem endonymref2_Times.mono_l : ∀ k, (∀ y0 y1 y2 y3 y4, LeO (endonymref2_Times.l0 k y0 y1 y2 y3 y4) (endonymref2_Times.l0 (k + 1) y0 y1 y2 y3 y4)) ∧ (∀ y0 y1, LeO (endonymref2_Times.l1 k y0 y1) (endonymref2_Times.l1 (k + 1) y0 y1))
 | 0 => ⟨fun _ _ _ _ _ r h => by simp [endonymref2_Times.l0] at h, fun _ _ r h => by simp [endonymref2_Times.l1] at h⟩
 | k + 1 => by
  obtain ⟨ih0, ih1⟩ := endonymref2_Times.mono_l k
  refine ⟨?_, ?_⟩
  ·
   intro y0 y1 y2 y3 y4
   unfold endonymref2_Times.l0
   repeat' first | (with_reducible first | apply ih0 | apply ih1 | apply endonymref2_trim.mono | apply LeO.refl | apply LeO.none | refine LeO.ite ?_ ?_ | refine LeO.bind ?_ (fun _ => ?_)) | apply ih0 | apply ih1 | apply endonymref2_trim.mono | apply LeO.none | refine LeO.ite ?_ ?_ | refine LeO.bind ?_ (fun _ => ?_)
  ·
   intro y0 y1
   unfold endonymref2_Times.l1
   repeat' first | (with_reducible first | apply ih0 | apply ih1 | apply endonymref2_trim.mono | apply LeO.refl | apply LeO.none | refine LeO.ite ?_ ?_ | refine LeO.bind ?_ (fun _ => ?_)) | apply ih0 | apply ih1 | apply endonymref2_trim.mono | apply LeO.none | refine LeO.ite ?_ ?_ | refine LeO.bind ?_ (fun _ => ?_)
theorem endonymref2_Times.mono : ∀ a0 a1 a2 k, LeO (endonymref2_Times.f k a0 a1 a2) (endonymref2_Times.f (k + 1) a0 a1 a2) := by
 intro a0 a1 a2 k
 obtain ⟨ih0, ih1⟩ := endonymref2_Times.mono_l k
 unfold endonymref2_Times.f
 repeat' first | (with_reducible first | apply ih0 | apply ih1 | apply endonymref2_trim.mono | apply LeO.refl | apply LeO.none | refine LeO.ite ?_ ?_ | refine LeO.bind ?_ (fun _ => ?_)) | apply ih0 | apply ih1 | apply endonymref2_trim.mono | apply LeO.none | refine LeO.ite ?_ ?_ | refine LeO.bind ?_ (fun _ => ?_)
set_option maxHeartbeats 8000000 in
set_option maxRecDepth 100000 in
theorem endonymref2_Times.calls (k : Nat) (A0 : Option Addr) (c0 : Nat) (l0 : List Int) (a1 : Int) (a2 : Int) (r : List Int) (w : World) (hr0 : Kd.C (Kd.int .u32) w A0 l0.length l0) (hc0 : l0.length ≤ c0) (h : endonymref2_Times.f k l0 a1 a2 = some r) :
  Calls Tryd.prog 53 #[.slice A0 l0.length c0, .int .u32 a1, .int .u32 a2] w fun e w' => ∃ v0_ : Value, e = .returned (v0_) ∧ Kd.R (Kd.int .u32) 84 w' w.heap.size (fun _ => True) v0_ r ∧ Below w.heap.size w w' := by
 have HR0 := Aside0.mk hr0
 have HC0 := Aside0.mk hc0
 clear hr0 hc0
 have HB := Aside0.mk (Below.refl w.heap.size w)
 have H : (endonymref2_Times.l0 k l0 a1 ([] : List Int) a2 0) = some r := h
 clear h
 have H' := Aside0.mk H
 clear H
 go_enter Tryd.func53, Tryd.ntmps53
 go_wp2
 go_loopg [7, 8, 9] k (fun kq v7 v8 v9 w' => ∃ (x7_1 : List Int) (x8_1 : Int) (x9_1 : Int), v8 = .int .u32 x8_1 ∧ v9 = .int .i64 x9_1 ∧ Aside0 (endonymref2_Times.l0 kq l0 a1 x7_1 x8_1 x9_1 = some r) ∧ Aside0 (kq ≤ k) ∧ Aside0 (Kd.R (Kd.int .u32) 84 w' w.heap.size (fun _ => True) v7 x7_1) ∧ Aside0 (Below w.heap.size w w'))
 case atStart => exact ⟨(([] : List Int)), (a2), (0), sqE, sqE, H', ⟨Nat.le_refl _⟩, ⟨by first | exact Kd.R_nil _ _ _ _ _ | exact Kd.N_nil _ _ _ _ _ | exact Kd.V_nil _ _ _ _ _ | exact Kd.Q_nil _ _ _ _ _ | exact Kd.S_nil _ _ _ _ _⟩, ⟨sqB⟩⟩
 case round =>
  clear H'
  try clear p2
  obtain ⟨x7_1, x8_1, x9_1, rfl, rfl, HA, HK1, HO_7, HB⟩ := hrel
  cases gk with
  | zero => exact absurd HA.out (by simp [endonymref2_Times.l0])
  | succ k1 =>
   have H := HA.out
   clear HA
   simp only [endonymref2_Times.l0] at H
   by_cases c4 : x9_1 < (l0.length : Int)
   ·
    rw [if_pos c4] at H
    have c4b0 := decide_eq_true c4
    clear c4
    by_cases c5 : 0 ≤ x9_1
    ·
     rw [if_pos c5] at H
     have c5b0 := decide_eq_true c5
     clear c5
     by_cases c6 : x7_1.length < 35184372088832
     ·
      rw [if_pos c6] at H
      have LMc6 := Aside0.mk c6
      clear c6
      obtain ⟨y531, hy531⟩ : ∃ y_ : List Int, y_ = (x7_1 ++ [Go.bits .and .u32 ((x8_1 + (((rd l0 x9_1) * a1))) % 4294967296) 65535]) := ⟨_, rfl⟩
      replace H : (endonymref2_Times.l0 k1 l0 a1 y531 (((x8_1 + (((rd l0 x9_1) * a1))) % 4294967296) / 65536) (wrap64 (x9_1 + 1))) = some r := by first | (rw [hy531]; with_reducible exact H) | (have H2_ := (Option.bind_some _ _).symm.trans H; rw [hy531]; with_reducible exact H2_) | (have H2_ := (Option.bind_some _ _).symm.trans H; with_reducible exact H2_) | with_reducible exact H | (rw [hy531]; exact H) | exact H
      have Ny531 := Aside0.mk hy531
      clear hy531
      have H' := Aside0.mk H
      clear H
      have p530 : 0 ≤ (x9_1 : Int) := sqD
      have q530 : x9_1 < (l0.length : Int) := sqD
      obtain ⟨ad530, e530, hx530_0⟩ := Kd.at_int HR0.out x9_1 p530 q530
      cases e530
      replace hx530_0 := (HB.out.cell (World.block_lt_of_cell? w _ hx530_0)).trans hx530_0
      replace p530 := eq_true p530
      replace q530 := eq_true q530
      go_wp2_with (first | ((with_reducible refine gate_builtin (b := .append) (xs := #[.tmp 25, .tmp 28]) rfl ?_); at_builtin; refine Kd.R_append (Kd.int .u32) (w0 := w) w.heap.size rfl (.tmp 25) (.tmp 28) 55 84 (.int .u32 0) 4 rfl Tryd.underlying55 info84 rfl (by decide) (by omega) u7 x7_1 (Go.bits .and .u32 ((x8_1 + (((rd l0 x9_1) * a1))) % 4294967296) 65535) [.int .u32 (Go.bits .and .u32 ((x8_1 + (((rd l0 x9_1) * a1))) % 4294967296) 65535)] (fun _ => True) (fun _ => False) rfl rfl ?aP (fun _ hk => hk.elim) ?aF ?aO ?aB ?aS ?aL ?_; (case aP => exact rfl); (case aB => exact sqB); (case aF => exact (fun _ _ => trivial)); (case aO => exact (sqR HO_7.out)); (case aS => exact (below_size sqB)); (case aL => have := LMc6.out; omega); intro v532 w7 ho hb hg hat; rw [← Ny531.out] at ho; have n0_ := Aside0.mk (hb); have n1_ := Aside0.mk (ho); clear HB; clear HO_7; have HB := n0_; have HO533 := n1_; clear n0_ n1_; clear ho hb hg hat))
      go_roundg k1
      case measure => have := HK1.out; omega
      case rel => exact ⟨(y531), (((x8_1 + (((rd l0 x9_1) * a1))) % 4294967296) / 65536), (wrap64 (x9_1 + 1)), sqE, sqE, H', ⟨by have := HK1.out; omega⟩, ⟨sqR HO533.out⟩, ⟨sqB⟩⟩
     ·
      rw [if_neg c6] at H
      exact absurd H (by simp)
    ·
     rw [if_neg c5] at H
     exact absurd H (by simp)
   ·
    rw [if_neg c4] at H
    have c4b0 := decide_eq_false c4
    clear c4
    have H' := Aside0.mk H
    clear H
    go_wp2
    go_loopg [7, 8] k1 (fun kq v7 v8 w' => ∃ (x7_2 : List Int) (x8_2 : Int), v8 = .int .u32 x8_2 ∧ Aside0 (endonymref2_Times.l1 kq x7_2 x8_2 = some r) ∧ Aside0 (kq ≤ k1) ∧ Aside0 (Kd.R (Kd.int .u32) 84 w' w.heap.size (fun _ => True) v7 x7_2) ∧ Aside0 (Below w.heap.size w w'))
    case atStart => exact ⟨(x7_1), (x8_1), sqE, H', ⟨Nat.le_refl _⟩, ⟨sqR HO_7.out⟩, ⟨sqB⟩⟩
    case round =>
     clear H'
     try clear p2
     try clear c4
     try clear c4b0
     try clear c5
     try clear c5b0
     try clear p5
     try clear q5
     try clear hx5
     try clear c6
     try clear p6
     try clear hx530_0
     try clear p2
     try clear p530
     try clear q530
     obtain ⟨x7_2, x8_2, rfl, HA, HK2, HO_7, HB⟩ := hrel
     cases gk with
     | zero => exact absurd HA.out (by simp [endonymref2_Times.l1])
     | succ k2 =>
      have H := HA.out
      clear HA
      simp only [endonymref2_Times.l1] at H
      by_cases c8 : x8_2 > 0
      ·
       rw [if_pos c8] at H
       have c8b0 := decide_eq_true c8
       clear c8
       by_cases c9 : x7_2.length < 35184372088832
       ·
        rw [if_pos c9] at H
        have LMc9 := Aside0.mk c9
        clear c9
        obtain ⟨y534, hy534⟩ : ∃ y_ : List Int, y_ = (x7_2 ++ [Go.bits .and .u32 x8_2 65535]) := ⟨_, rfl⟩
        replace H : (endonymref2_Times.l1 k2 y534 (x8_2 / 65536)) = some r := by first | (rw [hy534]; with_reducible exact H) | (have H2_ := (Option.bind_some _ _).symm.trans H; rw [hy534]; with_reducible exact H2_) | (have H2_ := (Option.bind_some _ _).symm.trans H; with_reducible exact H2_) | with_reducible exact H | (rw [hy534]; exact H) | exact H
        have Ny534 := Aside0.mk hy534
        clear hy534
        have H' := Aside0.mk H
        clear H
        go_wp2_with (first | ((with_reducible refine gate_builtin (b := .append) (xs := #[.tmp 34, .tmp 37]) rfl ?_); at_builtin; refine Kd.R_append (Kd.int .u32) (w0 := w) w.heap.size rfl (.tmp 34) (.tmp 37) 55 84 (.int .u32 0) 4 rfl Tryd.underlying55 info84 rfl (by decide) (by omega) u7 x7_2 (Go.bits .and .u32 x8_2 65535) [.int .u32 (Go.bits .and .u32 x8_2 65535)] (fun _ => True) (fun _ => False) rfl rfl ?aP (fun _ hk => hk.elim) ?aF ?aO ?aB ?aS ?aL ?_; (case aP => exact rfl); (case aB => exact sqB); (case aF => exact (fun _ _ => trivial)); (case aO => exact (sqR HO_7.out)); (case aS => exact (below_size sqB)); (case aL => have := LMc9.out; omega); intro v535 w10 ho hb hg hat; rw [← Ny534.out] at ho; have n0_ := Aside0.mk (hb); have n1_ := Aside0.mk (ho); clear HB; clear HO_7; have HB := n0_; have HO536 := n1_; clear n0_ n1_; clear ho hb hg hat))
        go_roundg k2
        case measure => have := HK1.out; have := HK2.out; omega
        case rel => exact ⟨(y534), (x8_2 / 65536), sqE, H', ⟨by have := HK1.out; have := HK2.out; omega⟩, ⟨sqR HO536.out⟩, ⟨sqB⟩⟩
       ·
        rw [if_neg c9] at H
        exact absurd H (by simp)
      ·
       rw [if_neg c8] at H
       have c8b0 := decide_eq_false c8
       clear c8
       replace H := Option.bind_eq_some_iff.mp H
       obtain ⟨t537, A110, H⟩ := H
       try dsimp only at H
       have A11 := Aside0.mk A110
       clear A110
       obtain rfl := Option.some.inj H
       obtain ⟨Ao12, co12, eo12⟩ := Kd.R_slice HO_7.out
       subst eo12
       go_wp2_with (first | ((with_reducible refine gate_callee (f := 81) rfl ?_); refine goesL_ (some 42) rfl rfl Tryd.func81 (by kernel_rfl) rfl #[.slice Ao12 x7_2.length co12] rfl sqA ?_; (with_reducible refine (endonymref2_trim.calls k2 (fun k_ => some k_ = (.slice Ao12 x7_2.length co12 : Value).ownBlock) (.slice Ao12 x7_2.length co12) x7_2 t537 w _ ?side1 ?side2 A11.out).mono ?_); (case side1 => repeat (first | (with_reducible first | exact HB.out | apply below_alloc | apply pw_below_drewN | apply below_drew1) | exact HB.out)); (case side2 => exact Kd.R_tight rfl HO_7.out); rintro e w13 ⟨v538, rfl, ho0, hb, hkp⟩; refine ⟨_, rfl, ?_⟩; have n0_ := Aside0.mk (Kd.R_mono (ok' := fun k_ => True) ho0 (fun k_ hk_ => trivial)); have n1_ := Aside0.mk (hb); clear HB; clear HO_7; have HO539 := n0_; have HB := n1_; clear n0_ n1_; (try clear hb); (try clear hkp); (try clear ho0)))
       go_ret
       exact ⟨_, sqE', sqR HO539.out, sqB⟩

/-! ### endonymref2_Product: function 77 -/
mutual
def endonymref2_Product.l0 : Nat → List Int → List Int → List Int → Int → Option (List Int)
 | 0, _, _, _, _ => none
 | k + 1, x0, x1, x5, x6 => if x6 < (x0.length : Int) then (endonymref2_Product.l1 k x0 x1 x5 x6 0 0) else ((endonymref2_trim.f k x5).bind fun t543 => (some t543))
def endonymref2_Product.l1 : Nat → List Int → List Int → List Int → Int → Int → Int → Option (List Int)
 | 0, _, _, _, _, _, _ => none
 | k + 1, x0, x1, x5, x6, x7, x8 => if x8 < (x1.length : Int) then (if 0 ≤ (wrap64 (x6 + x8)) then (if (wrap64 (x6 + x8)) < (x5.length : Int) then (if 0 ≤ x6 then (if x6 < (x0.length : Int) then (if 0 ≤ x8 then (endonymref2_Product.l1 k x0 x1 (x5.set ((wrap64 (x6 + x8)) : Int).toNat (Go.bits .and .u32 ((((x7 + (rd x5 (wrap64 (x6 + x8))))) + (((rd x0 x6) * (rd x1 x8)))) % 4294967296) 65535)) x6 (((((x7 + (rd x5 (wrap64 (x6 + x8))))) + (((rd x0 x6) * (rd x1 x8)))) % 4294967296) / 65536) (wrap64 (x8 + 1))) else (none)) else (none)) else (none)) else (none)) else (none)) else (if 0 ≤ (wrap64 (x6 + (x1.length : Int))) then (if (wrap64 (x6 + (x1.length : Int))) < (x5.length : Int) then (endonymref2_Product.l0 k x0 x1 (x5.set ((wrap64 (x6 + (x1.length : Int))) : Int).toNat (((rd x5 (wrap64 (x6 + (x1.length : Int)))) + x7) % 4294967296)) (wrap64 (x6 + 1))) else (none)) else (none))
end
def endonymref2_Product.f (k : Nat) (l0 : List Int) (l1 : List Int) : Option (List Int) := if 0 ≤ (wrap64 ((wrap64 ((l0.length : Int) + (l1.length : Int))) + 1)) then (if (wrap64 ((wrap64 ((l0.length : Int) + (l1.length : Int))) + 1) : Int).toNat ≤ 70368744177664 then (endonymref2_Product.l0 k l0 l1 (List.replicate (wrap64 ((wrap64 ((l0.length : Int) + (l1.length : Int))) + 1) : Int).toNat 0) 0) else (none)) else (none)
theorem endonymref2_Product.mono_l : ∀ k, (∀ y0 y1 y2 y3, LeO (endonymref2_Product.l0 k y0 y1 y2 y3) (endonymref2_Product.l0 (k + 1) y0 y1 y2 y3)) ∧ (∀ y0 y1 y2 y3 y4 y5, LeO (endonymref2_Product.l1 k y0 y1 y2 y3 y4 y5) (endonymref2_Product.l1 (k + 1) y0 y1 y2 y3 y4 y5))
 | 0 => ⟨fun _ _ _ _ r h => by simp [endonymref2_Product.l0] at h, fun _ _ _ _ _ _ r h => by simp [endonymref2_Product.l1] at h⟩
 | k + 1 => by
  obtain ⟨ih0, ih1⟩ := endonymref2_Product.mono_l k
  refine ⟨?_, ?_⟩
  ·
   intro y0 y1 y2 y3
   unfold endonymref2_Product.l0
   repeat' first | (with_reducible first | apply ih0 | apply ih1 | apply endonymref2_trim.mono | apply LeO.refl | apply LeO.none | refine LeO.ite ?_ ?_ | refine LeO.bind ?_ (fun _ => ?_)) | apply ih0 | apply ih1 | apply endonymref2_trim.mono | apply LeO.none | refine LeO.ite ?_ ?_ | refine LeO.bind ?_ (fun _ => ?_)
  ·
   intro y0 y1 y2 y3 y4 y5
   unfold endonymref2_Product.l1
   repeat' first | (with_reducible first | apply ih0 | apply ih1 | apply endonymref2_trim.mono | apply LeO.refl | apply LeO.none | refine LeO.ite ?_ ?_ | refine LeO.bind ?_ (fun _ => ?_)) | apply ih0 | apply ih1 | apply endonymref2_trim.mono | apply LeO.none | refine LeO.ite ?_ ?_ | refine LeO.bind ?_ (fun _ => ?_)
theorem endonymref2_Product.mono : ∀ a0 a1 k, LeO (endonymref2_Product.f k a0 a1) (endonymref2_Product.f (k + 1) a0 a1) := by
 intro a0 a1 k
 obtain ⟨ih0, ih1⟩ := endonymref2_Product.mono_l k
 unfold endonymref2_Product.f
 repeat' first | (with_reducible first | apply ih0 | apply ih1 | apply endonymref2_trim.mono | apply LeO.refl | apply LeO.none | refine LeO.ite ?_ ?_ | refine LeO.bind ?_ (fun _ => ?_)) | apply ih0 | apply ih1 | apply endonymref2_trim.mono | apply LeO.none | refine LeO.ite ?_ ?_ | refine LeO.bind ?_ (fun _ => ?_)
set_option maxHeartbeats 8000000 in
set_option maxRecDepth 100000 in
theorem endonymref2_Product.calls (k : Nat) (A0 : Option Addr) (c0 : Nat) (l0 : List Int) (A1 : Option Addr) (c1 : Nat) (l1 : List Int) (r : List Int) (w : World) (hr0 : Kd.C (Kd.int .u32) w A0 l0.length l0) (hc0 : l0.length ≤ c0) (hr1 : Kd.C (Kd.int .u32) w A1 l1.length l1) (hc1 : l1.length ≤ c1) (h : endonymref2_Product.f k l0 l1 = some r) :
  Calls Tryd.prog 77 #[.slice A0 l0.length c0, .slice A1 l1.length c1] w fun e w' => ∃ v0_ : Value, e = .returned (v0_) ∧ Kd.R (Kd.int .u32) 84 w' w.heap.size (fun _ => True) v0_ r ∧ Below w.heap.size w w' := by
 have HR0 := Aside0.mk hr0
 have HC0 := Aside0.mk hc0
 clear hr0 hc0
 have HR1 := Aside0.mk hr1
 have HC1 := Aside0.mk hc1
 clear hr1 hc1
 have HB := Aside0.mk (Below.refl w.heap.size w)
 have H : (if 0 ≤ (wrap64 ((wrap64 ((l0.length : Int) + (l1.length : Int))) + 1)) then (if (wrap64 ((wrap64 ((l0.length : Int) + (l1.length : Int))) + 1) : Int).toNat ≤ 70368744177664 then (endonymref2_Product.l0 k l0 l1 (List.replicate (wrap64 ((wrap64 ((l0.length : Int) + (l1.length : Int))) + 1) : Int).toNat 0) 0) else (none)) else (none)) = some r := h
 clear h
 obtain ⟨ji3, hji3⟩ : ∃ j_ : Int, (wrap64 ((wrap64 ((l0.length : Int) + (l1.length : Int))) + 1)) = j_ := ⟨_, rfl⟩
 replace H : (if 0 ≤ (ji3) then (if (ji3 : Int).toNat ≤ 70368744177664 then (endonymref2_Product.l0 k l0 l1 (List.replicate (ji3 : Int).toNat 0) 0) else (none)) else (none)) = some r := by first | (rw [hji3] at H; exact H) | (simp only [hji3] at H ⊢; exact H)
 have hji3w : (IntKind.i64.wrap ((wrap64 ((l0.length : Int) + (l1.length : Int))) + 1)) = ji3 := (i64_w _).trans hji3
 by_cases c4 : 0 ≤ (ji3)
 ·
  rw [if_pos c4] at H
  have c4b0 := eq_true c4
  have c4b1 := decide_eq_true c4
  clear c4
  by_cases c5 : (ji3 : Int).toNat ≤ 70368744177664
  ·
   rw [if_pos c5] at H
   have c5b0 := eq_true c5
   have c5b1 := decide_eq_true c5
   clear c5
   obtain ⟨y540, hy540⟩ : ∃ y_ : List Int, y_ = (List.replicate (ji3 : Int).toNat 0) := ⟨_, rfl⟩
   replace H : (endonymref2_Product.l0 k l0 l1 y540 0) = some r := by first | (rw [hy540]; with_reducible exact H) | (have H2_ := (Option.bind_some _ _).symm.trans H; rw [hy540]; with_reducible exact H2_) | (have H2_ := (Option.bind_some _ _).symm.trans H; with_reducible exact H2_) | with_reducible exact H | (rw [hy540]; exact H) | exact H
   have Ny540 := Aside0.mk hy540
   clear hy540
   have H' := Aside0.mk H
   clear H
   go_enter Tryd.func77, Tryd.ntmps77
   go_wp2_with (first | ((with_reducible refine gate_dst (N := 15) rfl ?_); refine Kd.R_make (Kd.int .u32) _ 84 rfl (N := 15) rfl 55 _ _ rfl ji3 rfl rfl Tryd.underlying55 (.int .u32 0) 4 info84 rfl (by decide) (by omega) 0 (ok := fun _ => True) (okp := fun _ => True) rfl (fun _ hk => hk) trivial sqD (Nat.le_trans (Nat.mul_le_mul_right _ (sqD : ji3.toNat ≤ 70368744177664)) (by omega)) (Below.refl _ _) (Nat.le_refl _) ?_; intro v541 w6 ho7 hb hg_ hnew_; clear hg_ hnew_; (first | rw [← Ny540.out] at ho7 | (simp only [Int.reduceToNat] at ho7; rw [← Ny540.out] at ho7)); have n0_ := Aside0.mk (Kd.R_lower ho7 (below_size sqB)); have n1_ := Aside0.mk (below_step sqB hb); clear HB; have HO542 := n0_; have HB := n1_; clear n0_ n1_; clear hb ho7))
   repeat (go_quiet (first | ((with_reducible refine gate_dst (N := 15) rfl ?_); refine Kd.R_make (Kd.int .u32) _ 84 rfl (N := 15) rfl 55 _ _ rfl ji3 rfl rfl Tryd.underlying55 (.int .u32 0) 4 info84 rfl (by decide) (by omega) 0 (ok := fun _ => True) (okp := fun _ => True) rfl (fun _ hk => hk) trivial sqD (Nat.le_trans (Nat.mul_le_mul_right _ (sqD : ji3.toNat ≤ 70368744177664)) (by omega)) (Below.refl _ _) (Nat.le_refl _) ?_; intro v541 w6 ho7 hb hg_ hnew_; clear hg_ hnew_; (first | rw [← Ny540.out] at ho7 | (simp only [Int.reduceToNat] at ho7; rw [← Ny540.out] at ho7)); have n0_ := Aside0.mk (Kd.R_lower ho7 (below_size sqB)); have n1_ := Aside0.mk (below_step sqB hb); clear HB; have HO542 := n0_; have HB := n1_; clear n0_ n1_; clear hb ho7)); try go_wp2_with (first | ((with_reducible refine gate_dst (N := 15) rfl ?_); refine Kd.R_make (Kd.int .u32) _ 84 rfl (N := 15) rfl 55 _ _ rfl ji3 rfl rfl Tryd.underlying55 (.int .u32 0) 4 info84 rfl (by decide) (by omega) 0 (ok := fun _ => True) (okp := fun _ => True) rfl (fun _ hk => hk) trivial sqD (Nat.le_trans (Nat.mul_le_mul_right _ (sqD : ji3.toNat ≤ 70368744177664)) (by omega)) (Below.refl _ _) (Nat.le_refl _) ?_; intro v541 w6 ho7 hb hg_ hnew_; clear hg_ hnew_; (first | rw [← Ny540.out] at ho7 | (simp only [Int.reduceToNat] at ho7; rw [← Ny540.out] at ho7)); have n0_ := Aside0.mk (Kd.R_lower ho7 (below_size sqB)); have n1_ := Aside0.mk (below_step sqB hb); clear HB; have HO542 := n0_; have HB := n1_; clear n0_ n1_; clear hb ho7)))
   try simp only [Act.put, List.setIfInBounds_toArray, List.set_cons_zero, List.set_cons_succ]
   go_loopg [6] k (fun kq v6 w' => ∃ (x5_1 : List Int) (x6_1 : Int), v6 = .int .i64 x6_1 ∧ Aside0 (endonymref2_Product.l0 kq l0 l1 x5_1 x6_1 = some r) ∧ Aside0 (kq ≤ k) ∧ Aside0 (Kd.R (Kd.int .u32) 84 w' w.heap.size (fun _ => True) v541 x5_1) ∧ Aside0 (Below w.heap.size w w'))
   case atStart => exact ⟨(y540), (0), sqE, H', ⟨Nat.le_refl _⟩, ⟨sqR HO542.out⟩, ⟨sqB⟩⟩
   case round =>
    clear H'
    try clear c1
    try clear p2
    try clear c4
    try clear c4b0
    try clear c4b1
    try clear c5
    try clear c5b0
    try clear c5b1
    try clear p6
    try clear c7
    obtain ⟨x5_1, x6_1, rfl, HA, HK1, HO_5, HB⟩ := hrel
    cases gk with
    | zero => exact absurd HA.out (by simp [endonymref2_Product.l0])
    | succ k1 =>
     have H := HA.out
     clear HA
     simp only [endonymref2_Product.l0] at H
     by_cases c8 : x6_1 < (l0.length : Int)
     ·
      rw [if_pos c8] at H
      have c8b0 := decide_eq_true c8
      clear c8
      have H' := Aside0.mk H
      clear H
      go_wp2
      repeat (go_quiet (fail); try go_wp2)
      go_loopg [7, 8] k1 (fun kq v7 v8 w' => ∃ (x5_2 : List Int) (x7_2 : Int) (x8_2 : Int), v7 = .int .u32 x7_2 ∧ v8 = .int .i64 x8_2 ∧ Aside0 (endonymref2_Product.l1 kq l0 l1 x5_2 x6_1 x7_2 x8_2 = some r) ∧ Aside0 (kq ≤ k1) ∧ Aside0 (Kd.R (Kd.int .u32) 84 w' w.heap.size (fun _ => True) v541 x5_2) ∧ Aside0 (Below w.heap.size w w'))
      case atStart => exact ⟨(x5_1), (0), (0), sqE, sqE, H', ⟨Nat.le_refl _⟩, ⟨sqR HO_5.out⟩, ⟨sqB⟩⟩
      case round =>
       clear H'
       try clear c1
       try clear p2
       try clear c4
       try clear c4b0
       try clear c4b1
       try clear c5
       try clear c5b0
       try clear c5b1
       try clear p6
       try clear c7
       try clear c8
       try clear c8b0
       try clear p2
       try clear p6
       obtain ⟨x5_2, x7_2, x8_2, rfl, rfl, HA, HK2, HO_5, HB⟩ := hrel
       cases gk with
       | zero => exact absurd HA.out (by simp [endonymref2_Product.l1])
       | succ k2 =>
        have H := HA.out
        clear HA
        simp only [endonymref2_Product.l1] at H
        by_cases c9 : x8_2 < (l1.length : Int)
        ·
         rw [if_pos c9] at H
         have c9b0 := decide_eq_true c9
         clear c9
         obtain ⟨ji10, hji10⟩ : ∃ j_ : Int, (wrap64 (x6_1 + x8_2)) = j_ := ⟨_, rfl⟩
         replace H : (if 0 ≤ (ji10) then (if (ji10) < (x5_2.length : Int) then (if 0 ≤ x6_1 then (if x6_1 < (l0.length : Int) then (if 0 ≤ x8_2 then (endonymref2_Product.l1 k2 l0 l1 (x5_2.set ((ji10) : Int).toNat (Go.bits .and .u32 ((((x7_2 + (rd x5_2 (ji10)))) + (((rd l0 x6_1) * (rd l1 x8_2)))) % 4294967296) 65535)) x6_1 (((((x7_2 + (rd x5_2 (ji10)))) + (((rd l0 x6_1) * (rd l1 x8_2)))) % 4294967296) / 65536) (wrap64 (x8_2 + 1))) else (none)) else (none)) else (none)) else (none)) else (none)) = some r := by first | (rw [hji10] at H; exact H) | (simp only [hji10] at H ⊢; exact H)
         have hji10w : (IntKind.i64.wrap (x6_1 + x8_2)) = ji10 := (i64_w _).trans hji10
         by_cases c11 : 0 ≤ (ji10)
         ·
          rw [if_pos c11] at H
          have c11b0 := decide_eq_true c11
          clear c11
          by_cases c12 : (ji10) < (x5_2.length : Int)
          ·
           rw [if_pos c12] at H
           have c12b0 := decide_eq_true c12
           clear c12
           by_cases c13 : 0 ≤ x6_1
           ·
            rw [if_pos c13] at H
            have c13b0 := decide_eq_true c13
            clear c13
            by_cases c14 : x6_1 < (l0.length : Int)
            ·
             rw [if_pos c14] at H
             have c14b0 := decide_eq_true c14
             clear c14
             by_cases c15 : 0 ≤ x8_2
             ·
              rw [if_pos c15] at H
              have c15b0 := decide_eq_true c15
              clear c15
              obtain ⟨y549, hy549⟩ : ∃ y_ : List Int, y_ = (x5_2.set ((ji10) : Int).toNat (Go.bits .and .u32 ((((x7_2 + (rd x5_2 (ji10)))) + (((rd l0 x6_1) * (rd l1 x8_2)))) % 4294967296) 65535)) := ⟨_, rfl⟩
              replace H : (endonymref2_Product.l1 k2 l0 l1 y549 x6_1 (((((x7_2 + (rd x5_2 (ji10)))) + (((rd l0 x6_1) * (rd l1 x8_2)))) % 4294967296) / 65536) (wrap64 (x8_2 + 1))) = some r := by first | (rw [hy549]; with_reducible exact H) | (have H2_ := (Option.bind_some _ _).symm.trans H; rw [hy549]; with_reducible exact H2_) | (have H2_ := (Option.bind_some _ _).symm.trans H; with_reducible exact H2_) | with_reducible exact H | (rw [hy549]; exact H) | exact H
              have Ny549 := Aside0.mk hy549
              clear hy549
              have H' := Aside0.mk H
              clear H
              obtain ⟨Ao17, co17, eo17⟩ := Kd.R_slice HO_5.out
              subst eo17
              have p546 : 0 ≤ ((ji10) : Int) := sqD
              have q546 : (ji10) < (x5_2.length : Int) := sqD
              obtain ⟨ad546, e546, hx546_0⟩ := Kd.at_int (Kd.R_reads' HO_5.out).2.2 (ji10) p546 q546
              cases e546
              replace p546 := eq_true p546
              replace q546 := eq_true q546
              have p547 : 0 ≤ (x6_1 : Int) := sqD
              have q547 : x6_1 < (l0.length : Int) := sqD
              obtain ⟨ad547, e547, hx547_0⟩ := Kd.at_int HR0.out x6_1 p547 q547
              cases e547
              replace hx547_0 := (HB.out.cell (World.block_lt_of_cell? w _ hx547_0)).trans hx547_0
              replace p547 := eq_true p547
              replace q547 := eq_true q547
              have p548 : 0 ≤ (x8_2 : Int) := sqD
              have q548 : x8_2 < (l1.length : Int) := sqD
              obtain ⟨ad548, e548, hx548_0⟩ := Kd.at_int HR1.out x8_2 p548 q548
              cases e548
              replace hx548_0 := (HB.out.cell (World.block_lt_of_cell? w _ hx548_0)).trans hx548_0
              replace p548 := eq_true p548
              replace q548 := eq_true q548
              have p16 : 0 ≤ ((ji10) : Int) := sqD
              have q16 : ((ji10) : Int) < ((x5_2.length : Int) : Int) := sqD
              obtain ⟨go16, co16, eo16, gb16, gl16, cl16, HG16⟩ := Kd.R_form HO_5.out (by omega)
              (first | cases eo16 | (injection eo16 with ea_ en_ ec_; (first | subst ea_ | (injection ea_ with ea_; subst ea_)); subst ec_; clear en_))
              have GB16 := Aside0.mk gb16
              have GG16 := Aside0.mk HG16
              clear gb16 gl16 HG16
              (first | simp only [add_plain] at hx546_0 | skip)
              obtain ⟨hx16_0, hf16_0⟩ := Kd.R_celln 0 HO_5.out ((ji10) : Int) p16 q16
              replace p16 := eq_true p16
              replace q16 := eq_true q16
              have HP18 := Kd.R_putg HO_5.out ((ji10) : Int) (Go.bits .and .u32 ((((x7_2 + (rd x5_2 (ji10)))) + (((rd l0 x6_1) * (rd l1 x8_2)))) % 4294967296) 65535)
              go_wp2_with (first | ((with_reducible refine gate_store (t := 84) (p := 52) rfl ?_); (try (rw [drewN_self wr]; generalize hq_ : World.drewN wr _ = wr; have n0_ := Aside0.mk (Kd.R_at hq_ HO_5.out); have n1_ := Aside0.mk (below_at hq_ HB.out); clear hq_ HO_5 HB; have HO_5 := n0_; have HB := n1_; clear n0_ n1_; (try (obtain ⟨hx16_0, hf16_0⟩ := Kd.R_celln 0 HO_5.out ((ji10) : Int) (of_eq_true p16) (of_eq_true q16))); (try (have HP18 := Kd.R_putg HO_5.out ((ji10) : Int) (Go.bits .and .u32 ((((x7_2 + (rd x5_2 (ji10)))) + (((rd l0 x6_1) * (rd l1 x8_2)))) % 4294967296) 65535))))); refine store_event (t := 84) (p := 52) (v := ?vo_w19) (w1 := (wr.setCell ⟨go16, ((ji10) : Int).toNat, none⟩ (.int .u32 (Go.bits .and .u32 ((((x7_2 + (rd x5_2 (ji10)))) + (((rd l0 x6_1) * (rd l1 x8_2)))) % 4294967296) 65535)))) ?hg ?ho ?hn ?hr ?_; (case ho => rfl); (case hg => rfl); (case hn => rfl); (case hr => first | (go_simp; done) | (go_simp; rfl)); intro w19 hw; have hg : wr.grownBy w19 (some go16) := (by rw [hw]; exact HP18.2); have hp_ : Kd.R (Kd.int .u32) 84 w19 w.heap.size (fun _ => True) (.slice (some ⟨go16, 0, none⟩) x5_2.length co17) y549 := (by rw [hw, Ny549.out]; exact HP18.1); clear HP18; have n0_ := Aside0.mk (hp_); have n1_ := Aside0.mk ((by rw [hw]; exact below_set (HB.out) GB16.out : Below w.heap.size w w19)); clear HO_5; clear HB; have HO_5 := n0_; have HB := n1_; clear n0_ n1_; clear hg hw hp_))
              repeat (go_quiet (first | ((with_reducible refine gate_store (t := 84) (p := 52) rfl ?_); (try (rw [drewN_self wr]; generalize hq_ : World.drewN wr _ = wr; have n0_ := Aside0.mk (Kd.R_at hq_ HO_5.out); have n1_ := Aside0.mk (below_at hq_ HB.out); clear hq_ HO_5 HB; have HO_5 := n0_; have HB := n1_; clear n0_ n1_; (try (obtain ⟨hx16_0, hf16_0⟩ := Kd.R_celln 0 HO_5.out ((ji10) : Int) (of_eq_true p16) (of_eq_true q16))); (try (have HP18 := Kd.R_putg HO_5.out ((ji10) : Int) (Go.bits .and .u32 ((((x7_2 + (rd x5_2 (ji10)))) + (((rd l0 x6_1) * (rd l1 x8_2)))) % 4294967296) 65535))))); refine store_event (t := 84) (p := 52) (v := ?vo_w19) (w1 := (wr.setCell ⟨go16, ((ji10) : Int).toNat, none⟩ (.int .u32 (Go.bits .and .u32 ((((x7_2 + (rd x5_2 (ji10)))) + (((rd l0 x6_1) * (rd l1 x8_2)))) % 4294967296) 65535)))) ?hg ?ho ?hn ?hr ?_; (case ho => rfl); (case hg => rfl); (case hn => rfl); (case hr => first | (go_simp; done) | (go_simp; rfl)); intro w19 hw; have hg : wr.grownBy w19 (some go16) := (by rw [hw]; exact HP18.2); have hp_ : Kd.R (Kd.int .u32) 84 w19 w.heap.size (fun _ => True) (.slice (some ⟨go16, 0, none⟩) x5_2.length co17) y549 := (by rw [hw, Ny549.out]; exact HP18.1); clear HP18; have n0_ := Aside0.mk (hp_); have n1_ := Aside0.mk ((by rw [hw]; exact below_set (HB.out) GB16.out : Below w.heap.size w w19)); clear HO_5; clear HB; have HO_5 := n0_; have HB := n1_; clear n0_ n1_; clear hg hw hp_)); try go_wp2_with (first | ((with_reducible refine gate_store (t := 84) (p := 52) rfl ?_); (try (rw [drewN_self wr]; generalize hq_ : World.drewN wr _ = wr; have n0_ := Aside0.mk (Kd.R_at hq_ HO_5.out); have n1_ := Aside0.mk (below_at hq_ HB.out); clear hq_ HO_5 HB; have HO_5 := n0_; have HB := n1_; clear n0_ n1_; (try (obtain ⟨hx16_0, hf16_0⟩ := Kd.R_celln 0 HO_5.out ((ji10) : Int) (of_eq_true p16) (of_eq_true q16))); (try (have HP18 := Kd.R_putg HO_5.out ((ji10) : Int) (Go.bits .and .u32 ((((x7_2 + (rd x5_2 (ji10)))) + (((rd l0 x6_1) * (rd l1 x8_2)))) % 4294967296) 65535))))); refine store_event (t := 84) (p := 52) (v := ?vo_w19) (w1 := (wr.setCell ⟨go16, ((ji10) : Int).toNat, none⟩ (.int .u32 (Go.bits .and .u32 ((((x7_2 + (rd x5_2 (ji10)))) + (((rd l0 x6_1) * (rd l1 x8_2)))) % 4294967296) 65535)))) ?hg ?ho ?hn ?hr ?_; (case ho => rfl); (case hg => rfl); (case hn => rfl); (case hr => first | (go_simp; done) | (go_simp; rfl)); intro w19 hw; have hg : wr.grownBy w19 (some go16) := (by rw [hw]; exact HP18.2); have hp_ : Kd.R (Kd.int .u32) 84 w19 w.heap.size (fun _ => True) (.slice (some ⟨go16, 0, none⟩) x5_2.length co17) y549 := (by rw [hw, Ny549.out]; exact HP18.1); clear HP18; have n0_ := Aside0.mk (hp_); have n1_ := Aside0.mk ((by rw [hw]; exact below_set (HB.out) GB16.out : Below w.heap.size w w19)); clear HO_5; clear HB; have HO_5 := n0_; have HB := n1_; clear n0_ n1_; clear hg hw hp_)))
              go_roundg k2
              case measure => have := HK1.out; have := HK2.out; omega
              case rel => exact ⟨(y549), (((((x7_2 + (rd x5_2 (ji10)))) + (((rd l0 x6_1) * (rd l1 x8_2)))) % 4294967296) / 65536), (wrap64 (x8_2 + 1)), (by first | rfl | (simp; done) | (simp only [← hji10] <;> (first | rfl | simp)) | (simp [*]; done)), sqE, H', ⟨by have := HK1.out; have := HK2.out; omega⟩, ⟨sqR HO_5.out⟩, ⟨sqB⟩⟩
             ·
              rw [if_neg c15] at H
              exact absurd H (by simp)
            ·
             rw [if_neg c14] at H
             exact absurd H (by simp)
           ·
            rw [if_neg c13] at H
            exact absurd H (by simp)
          ·
           rw [if_neg c12] at H
           exact absurd H (by simp)
         ·
          rw [if_neg c11] at H
          exact absurd H (by simp)
        ·
         rw [if_neg c9] at H
         have c9b0 := decide_eq_false c9
         clear c9
         obtain ⟨ji20, hji20⟩ : ∃ j_ : Int, (wrap64 (x6_1 + (l1.length : Int))) = j_ := ⟨_, rfl⟩
         replace H : (if 0 ≤ (ji20) then (if (ji20) < (x5_2.length : Int) then (endonymref2_Product.l0 k2 l0 l1 (x5_2.set ((ji20) : Int).toNat (((rd x5_2 (ji20)) + x7_2) % 4294967296)) (wrap64 (x6_1 + 1))) else (none)) else (none)) = some r := by first | (rw [hji20] at H; exact H) | (simp only [hji20] at H ⊢; exact H)
         have hji20w : (IntKind.i64.wrap (x6_1 + (l1.length : Int))) = ji20 := (i64_w _).trans hji20
         by_cases c21 : 0 ≤ (ji20)
         ·
          rw [if_pos c21] at H
          have c21b0 := decide_eq_true c21
          clear c21
          by_cases c22 : (ji20) < (x5_2.length : Int)
          ·
           rw [if_pos c22] at H
           have c22b0 := decide_eq_true c22
           clear c22
           obtain ⟨y551, hy551⟩ : ∃ y_ : List Int, y_ = (x5_2.set ((ji20) : Int).toNat (((rd x5_2 (ji20)) + x7_2) % 4294967296)) := ⟨_, rfl⟩
           replace H : (endonymref2_Product.l0 k2 l0 l1 y551 (wrap64 (x6_1 + 1))) = some r := by first | (rw [hy551]; with_reducible exact H) | (have H2_ := (Option.bind_some _ _).symm.trans H; rw [hy551]; with_reducible exact H2_) | (have H2_ := (Option.bind_some _ _).symm.trans H; with_reducible exact H2_) | with_reducible exact H | (rw [hy551]; exact H) | exact H
           have Ny551 := Aside0.mk hy551
           clear hy551
           have H' := Aside0.mk H
           clear H
           obtain ⟨Ao24, co24, eo24⟩ := Kd.R_slice HO_5.out
           subst eo24
           have p550 : 0 ≤ ((ji20) : Int) := sqD
           have q550 : (ji20) < (x5_2.length : Int) := sqD
           obtain ⟨ad550, e550, hx550_0⟩ := Kd.at_int (Kd.R_reads' HO_5.out).2.2 (ji20) p550 q550
           cases e550
           replace p550 := eq_true p550
           replace q550 := eq_true q550
           have p23 : 0 ≤ ((ji20) : Int) := sqD
           have q23 : ((ji20) : Int) < ((x5_2.length : Int) : Int) := sqD
           obtain ⟨go23, co23, eo23, gb23, gl23, cl23, HG23⟩ := Kd.R_form HO_5.out (by omega)
           (first | cases eo23 | (injection eo23 with ea_ en_ ec_; (first | subst ea_ | (injection ea_ with ea_; subst ea_)); subst ec_; clear en_))
           have GB23 := Aside0.mk gb23
           have GG23 := Aside0.mk HG23
           clear gb23 gl23 HG23
           (first | simp only [add_plain] at hx550_0 | skip)
           obtain ⟨hx23_0, hf23_0⟩ := Kd.R_celln 0 HO_5.out ((ji20) : Int) p23 q23
           replace p23 := eq_true p23
           replace q23 := eq_true q23
           have HP25 := Kd.R_putg HO_5.out ((ji20) : Int) (((rd x5_2 (ji20)) + x7_2) % 4294967296)
           go_wp2_with (first | ((with_reducible refine gate_store (t := 84) (p := 69) rfl ?_); (try (rw [drewN_self wr]; generalize hq_ : World.drewN wr _ = wr; have n0_ := Aside0.mk (Kd.R_at hq_ HO_5.out); have n1_ := Aside0.mk (below_at hq_ HB.out); clear hq_ HO_5 HB; have HO_5 := n0_; have HB := n1_; clear n0_ n1_; (try (obtain ⟨hx23_0, hf23_0⟩ := Kd.R_celln 0 HO_5.out ((ji20) : Int) (of_eq_true p23) (of_eq_true q23))); (try (have HP25 := Kd.R_putg HO_5.out ((ji20) : Int) (((rd x5_2 (ji20)) + x7_2) % 4294967296))))); refine store_event (t := 84) (p := 69) (v := ?vo_w26) (w1 := (wr.setCell ⟨go23, ((ji20) : Int).toNat, none⟩ (.int .u32 (((rd x5_2 (ji20)) + x7_2) % 4294967296)))) ?hg ?ho ?hn ?hr ?_; (case ho => rfl); (case hg => rfl); (case hn => rfl); (case hr => first | (go_simp; done) | (go_simp; rfl)); intro w26 hw; have hg : wr.grownBy w26 (some go23) := (by rw [hw]; exact HP25.2); have hp_ : Kd.R (Kd.int .u32) 84 w26 w.heap.size (fun _ => True) (.slice (some ⟨go23, 0, none⟩) x5_2.length co24) y551 := (by rw [hw, Ny551.out]; exact HP25.1); clear HP25; have n0_ := Aside0.mk (hp_); have n1_ := Aside0.mk ((by rw [hw]; exact below_set (HB.out) GB23.out : Below w.heap.size w w26)); clear HO_5; clear HB; have HO_5 := n0_; have HB := n1_; clear n0_ n1_; clear hg hw hp_))
           repeat (go_quiet (first | ((with_reducible refine gate_store (t := 84) (p := 69) rfl ?_); (try (rw [drewN_self wr]; generalize hq_ : World.drewN wr _ = wr; have n0_ := Aside0.mk (Kd.R_at hq_ HO_5.out); have n1_ := Aside0.mk (below_at hq_ HB.out); clear hq_ HO_5 HB; have HO_5 := n0_; have HB := n1_; clear n0_ n1_; (try (obtain ⟨hx23_0, hf23_0⟩ := Kd.R_celln 0 HO_5.out ((ji20) : Int) (of_eq_true p23) (of_eq_true q23))); (try (have HP25 := Kd.R_putg HO_5.out ((ji20) : Int) (((rd x5_2 (ji20)) + x7_2) % 4294967296))))); refine store_event (t := 84) (p := 69) (v := ?vo_w26) (w1 := (wr.setCell ⟨go23, ((ji20) : Int).toNat, none⟩ (.int .u32 (((rd x5_2 (ji20)) + x7_2) % 4294967296)))) ?hg ?ho ?hn ?hr ?_; (case ho => rfl); (case hg => rfl); (case hn => rfl); (case hr => first | (go_simp; done) | (go_simp; rfl)); intro w26 hw; have hg : wr.grownBy w26 (some go23) := (by rw [hw]; exact HP25.2); have hp_ : Kd.R (Kd.int .u32) 84 w26 w.heap.size (fun _ => True) (.slice (some ⟨go23, 0, none⟩) x5_2.length co24) y551 := (by rw [hw, Ny551.out]; exact HP25.1); clear HP25; have n0_ := Aside0.mk (hp_); have n1_ := Aside0.mk ((by rw [hw]; exact below_set (HB.out) GB23.out : Below w.heap.size w w26)); clear HO_5; clear HB; have HO_5 := n0_; have HB := n1_; clear n0_ n1_; clear hg hw hp_)); try go_wp2_with (first | ((with_reducible refine gate_store (t := 84) (p := 69) rfl ?_); (try (rw [drewN_self wr]; generalize hq_ : World.drewN wr _ = wr; have n0_ := Aside0.mk (Kd.R_at hq_ HO_5.out); have n1_ := Aside0.mk (below_at hq_ HB.out); clear hq_ HO_5 HB; have HO_5 := n0_; have HB := n1_; clear n0_ n1_; (try (obtain ⟨hx23_0, hf23_0⟩ := Kd.R_celln 0 HO_5.out ((ji20) : Int) (of_eq_true p23) (of_eq_true q23))); (try (have HP25 := Kd.R_putg HO_5.out ((ji20) : Int) (((rd x5_2 (ji20)) + x7_2) % 4294967296))))); refine store_event (t := 84) (p := 69) (v := ?vo_w26) (w1 := (wr.setCell ⟨go23, ((ji20) : Int).toNat, none⟩ (.int .u32 (((rd x5_2 (ji20)) + x7_2) % 4294967296)))) ?hg ?ho ?hn ?hr ?_; (case ho => rfl); (case hg => rfl); (case hn => rfl); (case hr => first | (go_simp; done) | (go_simp; rfl)); intro w26 hw; have hg : wr.grownBy w26 (some go23) := (by rw [hw]; exact HP25.2); have hp_ : Kd.R (Kd.int .u32) 84 w26 w.heap.size (fun _ => True) (.slice (some ⟨go23, 0, none⟩) x5_2.length co24) y551 := (by rw [hw, Ny551.out]; exact HP25.1); clear HP25; have n0_ := Aside0.mk (hp_); have n1_ := Aside0.mk ((by rw [hw]; exact below_set (HB.out) GB23.out : Below w.heap.size w w26)); clear HO_5; clear HB; have HO_5 := n0_; have HB := n1_; clear n0_ n1_; clear hg hw hp_)))
           go_roundg k2
           case measure => have := HK1.out; have := HK2.out; omega
           case rel => exact ⟨(y551), (wrap64 (x6_1 + 1)), sqE, H', ⟨by have := HK1.out; have := HK2.out; omega⟩, ⟨sqR HO_5.out⟩, ⟨sqB⟩⟩
          ·
           rw [if_neg c22] at H
           exact absurd H (by simp)
         ·
          rw [if_neg c21] at H
          exact absurd H (by simp)
     ·
      rw [if_neg c8] at H
      have c8b0 := decide_eq_false c8
      clear c8
      replace H := Option.bind_eq_some_iff.mp H
      obtain ⟨t543, A270, H⟩ := H
      try dsimp only at H
      have A27 := Aside0.mk A270
      clear A270
      obtain rfl := Option.some.inj H
      obtain ⟨Ao28, co28, eo28⟩ := Kd.R_slice HO_5.out
      subst eo28
      go_wp2_with (first | (go_at_call 81; (with_reducible refine (endonymref2_trim.calls k1 (fun k_ => some k_ = (.slice Ao28 x5_1.length co28 : Value).ownBlock) (.slice Ao28 x5_1.length co28) x5_1 t543 w _ ?side1 ?side2 A27.out).mono ?_); (case side1 => repeat (first | (with_reducible first | exact HB.out | apply below_alloc | apply pw_below_drewN | apply below_drew1) | exact HB.out)); (case side2 => exact Kd.R_tight rfl HO_5.out); rintro e w29 ⟨v544, rfl, ho0, hb, hkp⟩; have n0_ := Aside0.mk (Kd.R_mono (ok' := fun k_ => True) ho0 (fun k_ hk_ => trivial)); have n1_ := Aside0.mk (hb); clear HB; clear HO_5; have HO545 := n0_; have HB := n1_; clear n0_ n1_; (try clear hb); (try clear hkp); (try clear ho0)))
      repeat (go_quiet (first | (go_at_call 81; (with_reducible refine (endonymref2_trim.calls k1 (fun k_ => some k_ = (.slice Ao28 x5_1.length co28 : Value).ownBlock) (.slice Ao28 x5_1.length co28) x5_1 t543 w _ ?side1 ?side2 A27.out).mono ?_); (case side1 => repeat (first | (with_reducible first | exact HB.out | apply below_alloc | apply pw_below_drewN | apply below_drew1) | exact HB.out)); (case side2 => exact Kd.R_tight rfl HO_5.out); rintro e w29 ⟨v544, rfl, ho0, hb, hkp⟩; have n0_ := Aside0.mk (Kd.R_mono (ok' := fun k_ => True) ho0 (fun k_ hk_ => trivial)); have n1_ := Aside0.mk (hb); clear HB; clear HO_5; have HO545 := n0_; have HB := n1_; clear n0_ n1_; (try clear hb); (try clear hkp); (try clear ho0))); try go_wp2_with (first | (go_at_call 81; (with_reducible refine (endonymref2_trim.calls k1 (fun k_ => some k_ = (.slice Ao28 x5_1.length co28 : Value).ownBlock) (.slice Ao28 x5_1.length co28) x5_1 t543 w _ ?side1 ?side2 A27.out).mono ?_); (case side1 => repeat (first | (with_reducible first | exact HB.out | apply below_alloc | apply pw_below_drewN | apply below_drew1) | exact HB.out)); (case side2 => exact Kd.R_tight rfl HO_5.out); rintro e w29 ⟨v544, rfl, ho0, hb, hkp⟩; have n0_ := Aside0.mk (Kd.R_mono (ok' := fun k_ => True) ho0 (fun k_ hk_ => trivial)); have n1_ := Aside0.mk (hb); clear HB; clear HO_5; have HO545 := n0_; have HB := n1_; clear n0_ n1_; (try clear hb); (try clear hkp); (try clear ho0))))
      go_ret
      exact ⟨_, by first | rfl | (simp [errW_none, errW_some] <;> rfl) | (simp only [← hji3]; first | rfl | (simp [errW_none, errW_some] <;> rfl)) | (simp [*, errW_none, errW_some] <;> rfl), sqR HO545.out, sqB⟩
  ·
   rw [if_neg c5] at H
   exact absurd H (by simp)
 ·
  rw [if_neg c4] at H
  exact absurd H (by simp)

/-! ### endonymref2_Of: function 29 -/
def endonymref2_Of.l0 : Nat → Int → List Int → Option (List Int)
 | 0, _, _ => none
 | k + 1, x0, x3 => if x0 > 0 then (if x3.length < 35184372088832 then (endonymref2_Of.l0 k (x0 / 65536) (x3 ++ [(Go.bits .and .u64 x0 65535) % 4294967296])) else (none)) else (some x3)
def endonymref2_Of.f (k : Nat) (a0 : Int) : Option (List Int) := endonymref2_Of.l0 k a0 ([] : List Int)
theorem endonymref2_Of.mono_l : ∀ k, (∀ y0 y1, LeO (endonymref2_Of.l0 k y0 y1) (endonymref2_Of.l0 (k + 1) y0 y1))
 | 0 => fun _ _ r h => by simp [endonymref2_Of.l0] at h
 | k + 1 => by
  have ih0 := endonymref2_Of.mono_l k
  ·
   intro y0 y1
   unfold endonymref2_Of.l0
   repeat' first | (with_reducible first | apply ih0 | apply LeO.refl | apply LeO.none | refine LeO.ite ?_ ?_ | refine LeO.bind ?_ (fun _ => ?_)) | apply ih0 | apply LeO.none | refine LeO.ite ?_ ?_ | refine LeO.bind ?_ (fun _ => ?_)
theorem endonymref2_Of.mono : ∀ a0 k, LeO (endonymref2_Of.f k a0) (endonymref2_Of.f (k + 1) a0) := by
 intro a0 k
 have ih0 := endonymref2_Of.mono_l k
 unfold endonymref2_Of.f
 repeat' first | (with_reducible first | apply ih0 | apply LeO.refl | apply LeO.none | refine LeO.ite ?_ ?_ | refine LeO.bind ?_ (fun _ => ?_)) | apply ih0 | apply LeO.none | refine LeO.ite ?_ ?_ | refine LeO.bind ?_ (fun _ => ?_)
set_option maxHeartbeats 8000000 in
set_option maxRecDepth 100000 in
theorem endonymref2_Of.calls (k : Nat) (a0 : Int) (r : List Int) (w : World) (h : endonymref2_Of.f k a0 = some r) :
  Calls Tryd.prog 29 #[.int .u64 a0] w fun e w' => ∃ v0_ : Value, e = .returned (v0_) ∧ Kd.R (Kd.int .u32) 84 w' w.heap.size (fun _ => True) v0_ r ∧ Below w.heap.size w w' := by
 have HB := Aside0.mk (Below.refl w.heap.size w)
 have H : (endonymref2_Of.l0 k a0 ([] : List Int)) = some r := h
 clear h
 have H' := Aside0.mk H
 clear H
 go_enter Tryd.func29, Tryd.ntmps29
 go_wp2
 go_loopg [0, 3] k (fun kq v0 v3 w' => ∃ (x0_1 : Int) (x3_1 : List Int), v0 = .int .u64 x0_1 ∧ Aside0 (endonymref2_Of.l0 kq x0_1 x3_1 = some r) ∧ Aside0 (kq ≤ k) ∧ Aside0 (Kd.R (Kd.int .u32) 84 w' w.heap.size (fun _ => True) v3 x3_1) ∧ Aside0 (Below w.heap.size w w'))
 case atStart => exact ⟨(a0), (([] : List Int)), sqE, H', ⟨Nat.le_refl _⟩, ⟨by first | exact Kd.R_nil _ _ _ _ _ | exact Kd.N_nil _ _ _ _ _ | exact Kd.V_nil _ _ _ _ _ | exact Kd.Q_nil _ _ _ _ _ | exact Kd.S_nil _ _ _ _ _⟩, ⟨sqB⟩⟩
 case round =>
  clear H'
  obtain ⟨x0_1, x3_1, rfl, HA, HK1, HO_3, HB⟩ := hrel
  cases gk with
  | zero => exact absurd HA.out (by simp [endonymref2_Of.l0])
  | succ k1 =>
   have H := HA.out
   clear HA
   simp only [endonymref2_Of.l0] at H
   by_cases c2 : x0_1 > 0
   ·
    rw [if_pos c2] at H
    have c2b0 := decide_eq_true c2
    clear c2
    by_cases c3 : x3_1.length < 35184372088832
    ·
     rw [if_pos c3] at H
     have LMc3 := Aside0.mk c3
     clear c3
     obtain ⟨y552, hy552⟩ : ∃ y_ : List Int, y_ = (x3_1 ++ [(Go.bits .and .u64 x0_1 65535) % 4294967296]) := ⟨_, rfl⟩
     replace H : (endonymref2_Of.l0 k1 (x0_1 / 65536) y552) = some r := by first | (rw [hy552]; with_reducible exact H) | (have H2_ := (Option.bind_some _ _).symm.trans H; rw [hy552]; with_reducible exact H2_) | (have H2_ := (Option.bind_some _ _).symm.trans H; with_reducible exact H2_) | with_reducible exact H | (rw [hy552]; exact H) | exact H
     have Ny552 := Aside0.mk hy552
     clear hy552
     have H' := Aside0.mk H
     clear H
     go_wp2_with (first | ((with_reducible refine gate_builtin (b := .append) (xs := #[.tmp 6, .tmp 10]) rfl ?_); at_builtin; refine Kd.R_append (Kd.int .u32) (w0 := w) w.heap.size rfl (.tmp 6) (.tmp 10) 55 84 (.int .u32 0) 4 rfl Tryd.underlying55 info84 rfl (by decide) (by omega) u3 x3_1 ((Go.bits .and .u64 x0_1 65535) % 4294967296) [.int .u32 ((Go.bits .and .u64 x0_1 65535) % 4294967296)] (fun _ => True) (fun _ => False) rfl rfl ?aP (fun _ hk => hk.elim) ?aF ?aO ?aB ?aS ?aL ?_; (case aP => exact rfl); (case aB => exact sqB); (case aF => exact (fun _ _ => trivial)); (case aO => exact (sqR HO_3.out)); (case aS => exact (below_size sqB)); (case aL => have := LMc3.out; omega); intro v553 w4 ho hb hg hat; rw [← Ny552.out] at ho; have n0_ := Aside0.mk (hb); have n1_ := Aside0.mk (ho); clear HB; clear HO_3; have HB := n0_; have HO554 := n1_; clear n0_ n1_; clear ho hb hg hat))
     go_roundg k1
     case measure => have := HK1.out; omega
     case rel => exact ⟨(x0_1 / 65536), (y552), sqE, H', ⟨by have := HK1.out; omega⟩, ⟨sqR HO554.out⟩, ⟨sqB⟩⟩
    ·
     rw [if_neg c3] at H
     exact absurd H (by simp)
   ·
    rw [if_neg c2] at H
    have c2b0 := decide_eq_false c2
    clear c2
    obtain rfl := Option.some.inj H
    go_wp2
    go_ret
    exact ⟨_, sqE', sqR HO_3.out, sqB⟩

/-! ### endonymref2_Ten: function 78 -/
def endonymref2_Ten.l0 : Nat → Int → List Int → Int → Option (List Int)
 | 0, _, _, _ => none
 | k + 1, x0, x3, x4 => if x4 < x0 then ((endonymref2_Times.f k x3 10 0).bind fun t558 => (endonymref2_Ten.l0 k x0 t558 (wrap64 (x4 + 1)))) else (some x3)
def endonymref2_Ten.f (k : Nat) (a0 : Int) : Option (List Int) := (endonymref2_Of.f k 1).bind fun t555 => (endonymref2_Ten.l0 k a0 t555 0)
theorem endonymref2_Ten.mono_l : ∀ k, (∀ y0 y1 y2, LeO (endonymref2_Ten.l0 k y0 y1 y2) (endonymref2_Ten.l0 (k + 1) y0 y1 y2))
 | 0 => fun _ _ _ r h => by simp [endonymref2_Ten.l0] at h
 | k + 1 => by
  have ih0 := endonymref2_Ten.mono_l k
  ·
   intro y0 y1 y2
   unfold endonymref2_Ten.l0
   repeat' first | (with_reducible first | apply ih0 | apply endonymref2_Of.mono | apply endonymref2_Times.mono | apply LeO.refl | apply LeO.none | refine LeO.ite ?_ ?_ | refine LeO.bind ?_ (fun _ => ?_)) | apply ih0 | apply endonymref2_Of.mono | apply endonymref2_Times.mono | apply LeO.none | refine LeO.ite ?_ ?_ | refine LeO.bind ?_ (fun _ => ?_)
theorem endonymref2_Ten.mono : ∀ a0 k, LeO (endonymref2_Ten.f k a0) (endonymref2_Ten.f (k + 1) a0) := by
 intro a0 k
 have ih0 := endonymref2_Ten.mono_l k
 unfold endonymref2_Ten.f
 repeat' first | (with_reducible first | apply ih0 | apply endonymref2_Of.mono | apply endonymref2_Times.mono | apply LeO.refl | apply LeO.none | refine LeO.ite ?_ ?_ | refine LeO.bind ?_ (fun _ => ?_)) | apply ih0 | apply endonymref2_Of.mono | apply endonymref2_Times.mono | apply LeO.none | refine LeO.ite ?_ ?_ | refine LeO.bind ?_ (fun _ => ?_)
set_option maxHeartbeats 8000000 in
set_option maxRecDepth 100000 in
theorem endonymref2_Ten.calls (k : Nat) (a0 : Int) (r : List Int) (w : World) (h : endonymref2_Ten.f k a0 = some r) :
  Calls Tryd.prog 78 #[.int .i64 a0] w fun e w' => ∃ v0_ : Value, e = .returned (v0_) ∧ Kd.R (Kd.int .u32) 84 w' w.heap.size (fun _ => True) v0_ r ∧ Below w.heap.size w w' := by
 have HB := Aside0.mk (Below.refl w.heap.size w)
 have H : ((endonymref2_Of.f k 1).bind fun t555 => (endonymref2_Ten.l0 k a0 t555 0)) = some r := h
 clear h
 replace H := Option.bind_eq_some_iff.mp H
 obtain ⟨t555, A20, H⟩ := H
 try dsimp only at H
 have A2 := Aside0.mk A20
 clear A20
 have H' := Aside0.mk H
 clear H
 go_enter Tryd.func78, Tryd.ntmps78
 go_wp2_with (first | ((with_reducible refine gate_callee (f := 29) rfl ?_); refine goesL_ (some 5) rfl rfl Tryd.func29 (by kernel_rfl) rfl #[.int .u64 1] rfl sqA ?_; (with_reducible refine (endonymref2_Of.calls k 1 t555 _ A2.out).mono ?_); rintro e w3 ⟨v556, rfl, ho0, hb⟩; refine ⟨_, rfl, ?_⟩; have n0_ := Aside0.mk (Kd.R_lower ho0 (below_size sqB)); have n1_ := Aside0.mk (below_step sqB hb); clear HB; have HO557 := n0_; have HB := n1_; clear n0_ n1_; (try clear hb); (try clear hb2); (try clear hk); (try clear hi); (try clear ho0)))
 try simp only [Act.put, List.setIfInBounds_toArray, List.set_cons_zero, List.set_cons_succ]
 go_loopg [3, 4] k (fun kq v3 v4 w' => ∃ (x3_1 : List Int) (x4_1 : Int), v4 = .int .i64 x4_1 ∧ Aside0 (endonymref2_Ten.l0 kq a0 x3_1 x4_1 = some r) ∧ Aside0 (kq ≤ k) ∧ Aside0 (Kd.R (Kd.int .u32) 84 w' w.heap.size (fun _ => True) v3 x3_1) ∧ Aside0 (Below w.heap.size w w'))
 case atStart => exact ⟨(t555), (0), sqE, H', ⟨Nat.le_refl _⟩, ⟨sqR HO557.out⟩, ⟨sqB⟩⟩
 case round =>
  clear H'
  try clear c2
  try clear p2
  obtain ⟨x3_1, x4_1, rfl, HA, HK1, HO_3, HB⟩ := hrel
  cases gk with
  | zero => exact absurd HA.out (by simp [endonymref2_Ten.l0])
  | succ k1 =>
   have H := HA.out
   clear HA
   simp only [endonymref2_Ten.l0] at H
   by_cases c4 : x4_1 < a0
   ·
    rw [if_pos c4] at H
    have c4b0 := decide_eq_true c4
    clear c4
    replace H := Option.bind_eq_some_iff.mp H
    obtain ⟨t558, A50, H⟩ := H
    try dsimp only at H
    have A5 := Aside0.mk A50
    clear A50
    have H' := Aside0.mk H
    clear H
    obtain ⟨Ao6, co6, eo6⟩ := Kd.R_slice HO_3.out
    subst eo6
    go_wp2_with (first | ((with_reducible refine gate_callee (f := 53) rfl ?_); refine goesL_ (some 12) rfl rfl Tryd.func53 (by kernel_rfl) rfl #[.slice Ao6 x3_1.length co6, .int .u32 10, .int .u32 0] rfl sqA ?_; (with_reducible refine (endonymref2_Times.calls k1 _ _ x3_1 10 0 t558 _ ?side1 ?side2 A5.out).mono ?_); (case side1 => repeat (first | exact (Kd.R_reads' HO_3.out).2.2 | (with_reducible refine Kd.C_alloc ?_ _) | (with_reducible refine Kd.C_drewN ?_ _) | (with_reducible refine Kd.C_drew ?_))); (case side2 => exact (Kd.R_reads' HO_3.out).2.1); rintro e w7 ⟨v559, rfl, ho0, hb⟩; refine ⟨_, rfl, ?_⟩; have n0_ := Aside0.mk (Kd.R_elder' (sqR HO_3.out) (Kd.R_base ho0) hb); have n1_ := Aside0.mk (Kd.R_lower (Kd.R_new' ho0 (Kd.R_lt (sqR HO_3.out))) (below_size sqB)); have n2_ := Aside0.mk (below_step sqB hb); clear HO_3; clear HB; have HO_3 := n0_; have HO560 := n1_; have HB := n2_; clear n0_ n1_ n2_; (try clear hb); (try clear hb2); (try clear hk); (try clear hi); (try clear ho0)))
    go_roundg k1
    case measure => have := HK1.out; omega
    case rel => exact ⟨(t558), (wrap64 (x4_1 + 1)), sqE, H', ⟨by have := HK1.out; omega⟩, ⟨by (with_reducible repeat (first | apply Kd.R_alloc | apply Kd.R_drewN | apply Kd.R_drew)); exact Kd.R_mono HO560.out (fun _ hk => trivial)⟩, ⟨sqB⟩⟩
   ·
    rw [if_neg c4] at H
    have c4b0 := decide_eq_false c4
    clear c4
    obtain rfl := Option.some.inj H
    go_wp2
    go_ret
    exact ⟨_, sqE', sqR HO_3.out, sqB⟩

end Go.Proofs.YtfmjdoofopamkaaDoor.W
