-- written by wip/pp.py of this session (the kit's print with patches); checked by Lean alone
import Derived.Test.YtfmjdoofopamkaaGreatDoorWx0
import Derived.Test.YtfmjdoofopamkaaGreatDoorWx8
import Derived.Test.YtfmjdoofopamkaaGreatDoorWx10
import Derived.Test.YtfmjdoofopamkaaGreatDoorWx11
namespace Go.Proofs.YtfmjdoofopamkaaGreatDoor.W
open Go.RowKit Go.Proofs.YtfmjdoofopamkaaGreatDoorW.PrintWords Go.Proofs.YtfmjdoofopamkaaGreatDoorW.PrintLast Go.Proofs.YtfmjdoofopamkaaGreatDoorW.PrintMore
attribute [local go_sem] max2_int min2_int max_two min_two max_three min_three max_four min_four   -- for this text's walks alone
set_option linter.unusedVariables false
set_option linter.unusedSimpArgs false

/-! ### endonymref2_pack: function 91 -/
mutual
def endonymref2_pack.l0 : Nat → List Int → Int → Option (Int)
 | 0, _, _ => none
 | k + 1, x0, x1 => (endonymref2_Length.f k x0).bind fun t382 => (if t382 > 53 then ((endonymref2_half.f k x0).bind fun t383 => (endonymref2_pack.l0 k t383 (wrap64 (x1 + 1)))) else (if (x0.length : Int) = 0 then (some 0) else (endonymref2_pack.l1 k x0 x1)))
def endonymref2_pack.j2 : Nat → List Int → Int → Option (Int)
 | 0, _, _ => none
 | k + 1, x0, x1 => (endonymref2_Length.f k x0).bind fun t390 => (if t390 < 53 then ((endonymref2_value.f k x0).bind fun t391 => (some t391)) else ((endonymref2_value.f k x0).bind fun t392 => (some (Go.bits .or .u64 (IntKind.u64.wrap ((IntKind.u64.wrap (wrap64 (x1 + 1075))) * 4503599627370496)) (Go.bits .and .u64 t392 4503599627370495)))))
def endonymref2_pack.l1 : Nat → List Int → Int → Option (Int)
 | 0, _, _ => none
 | k + 1, x0, x1 => (endonymref2_Length.f k x0).bind fun t386 => (if t386 < 53 then (if x1 > (-1074) then ((endonymref2_Left.f k x0 1).bind fun t387 => (endonymref2_pack.l1 k t387 (wrap64 (x1 - 1)))) else (endonymref2_pack.j2 k x0 x1)) else (endonymref2_pack.j2 k x0 x1))
end
def endonymref2_pack.f (k : Nat) (l0 : List Int) (a1 : Int) : Option (Int) := endonymref2_pack.l0 k l0 a1
theorem endonymref2_pack.mono_l : ∀ k, (∀ y0 y1, LeO (endonymref2_pack.l0 k y0 y1) (endonymref2_pack.l0 (k + 1) y0 y1)) ∧ (∀ y0 y1, LeO (endonymref2_pack.j2 k y0 y1) (endonymref2_pack.j2 (k + 1) y0 y1)) ∧ (∀ y0 y1, LeO (endonymref2_pack.l1 k y0 y1) (endonymref2_pack.l1 (k + 1) y0 y1))
 | 0 => ⟨fun _ _ r h => by simp [endonymref2_pack.l0] at h, fun _ _ r h => by simp [endonymref2_pack.j2] at h, fun _ _ r h => by simp [endonymref2_pack.l1] at h⟩
 | k + 1 => by
  obtain ⟨ih0, ih1, ih2⟩ := endonymref2_pack.mono_l k
  refine ⟨?_, ?_, ?_⟩
  ·intro y0 y1
   unfold endonymref2_pack.l0
   repeat' first | (with_reducible first | apply ih0 | apply ih1 | apply ih2 | apply endonymref2_Left.mono | apply endonymref2_Length.mono | apply endonymref2_half.mono | apply endonymref2_value.mono | apply LeO.refl | apply LeO.none | refine LeO.ite ?_ ?_ | refine LeO.bind ?_ (fun _ => ?_)) | apply ih0 | apply ih1 | apply ih2 | apply endonymref2_Left.mono | apply endonymref2_Length.mono | apply endonymref2_half.mono | apply endonymref2_value.mono | apply LeO.none | refine LeO.ite ?_ ?_ | refine LeO.bind ?_ (fun _ => ?_)
  ·intro y0 y1
   unfold endonymref2_pack.j2
   repeat' first | (with_reducible first | apply ih0 | apply ih1 | apply ih2 | apply endonymref2_Left.mono | apply endonymref2_Length.mono | apply endonymref2_half.mono | apply endonymref2_value.mono | apply LeO.refl | apply LeO.none | refine LeO.ite ?_ ?_ | refine LeO.bind ?_ (fun _ => ?_)) | apply ih0 | apply ih1 | apply ih2 | apply endonymref2_Left.mono | apply endonymref2_Length.mono | apply endonymref2_half.mono | apply endonymref2_value.mono | apply LeO.none | refine LeO.ite ?_ ?_ | refine LeO.bind ?_ (fun _ => ?_)
  intro y0 y1
  unfold endonymref2_pack.l1
  repeat' first | (with_reducible first | apply ih0 | apply ih1 | apply ih2 | apply endonymref2_Left.mono | apply endonymref2_Length.mono | apply endonymref2_half.mono | apply endonymref2_value.mono | apply LeO.refl | apply LeO.none | refine LeO.ite ?_ ?_ | refine LeO.bind ?_ (fun _ => ?_)) | apply ih0 | apply ih1 | apply ih2 | apply endonymref2_Left.mono | apply endonymref2_Length.mono | apply endonymref2_half.mono | apply endonymref2_value.mono | apply LeO.none | refine LeO.ite ?_ ?_ | refine LeO.bind ?_ (fun _ => ?_)
theorem endonymref2_pack.mono : ∀ a0 a1 k, LeO (endonymref2_pack.f k a0 a1) (endonymref2_pack.f (k + 1) a0 a1) := by
 intro a0 a1 k
 obtain ⟨ih0, ih1, ih2⟩ := endonymref2_pack.mono_l k
 unfold endonymref2_pack.f
 repeat' first | (with_reducible first | apply ih0 | apply ih1 | apply ih2 | apply endonymref2_Left.mono | apply endonymref2_Length.mono | apply endonymref2_half.mono | apply endonymref2_value.mono | apply LeO.refl | apply LeO.none | refine LeO.ite ?_ ?_ | refine LeO.bind ?_ (fun _ => ?_)) | apply ih0 | apply ih1 | apply ih2 | apply endonymref2_Left.mono | apply endonymref2_Length.mono | apply endonymref2_half.mono | apply endonymref2_value.mono | apply LeO.none | refine LeO.ite ?_ ?_ | refine LeO.bind ?_ (fun _ => ?_)
set_option maxHeartbeats 8000000 in
set_option maxRecDepth 100000 in
theorem endonymref2_pack.calls (k : Nat) (P0_ : Nat → Prop) (A0 : Option Addr) (c0 : Nat) (l0 : List Int) (a1 : Int) (r : Int) (w : World) (hs0 : Kd.V (Kd.int .u32) 83 w w.heap.size (fun k_ => P0_ k_) (.slice A0 l0.length c0) l0) (h : endonymref2_pack.f k l0 a1 = some r) :
  Calls Tryz.prog 91 #[.slice A0 l0.length c0, .int .i64 a1] w fun e w' => e = .returned (.int .u64 r) ∧ Below w.heap.size w w' := by
 have HO0 := Aside0.mk (show Kd.V (Kd.int .u32) 83 w w.heap.size (fun k_ => (P0_ k_ ∨ w.heap.size ≤ k_)) (.slice A0 l0.length c0) l0 from Kd.V_mono hs0 (fun k_ hk => .inl hk))
 have HB := Aside0.mk (Below.refl w.heap.size w)
 have H : (endonymref2_pack.l0 k l0 a1) = some r := h
 clear h
 have H' := Aside0.mk H
 clear H
 go_enter Tryz.func91, Tryz.ntmps91
 go_wp2
 go_loopg [0, 1] k (fun kq v0 v1 w' => ∃ (x0_1 : List Int) (x1_1 : Int), v1 = .int .i64 x1_1 ∧ Aside0 (endonymref2_pack.l0 kq x0_1 x1_1 = some r) ∧ Aside0 (kq ≤ k) ∧ Aside0 (Kd.V (Kd.int .u32) 83 w' w.heap.size (fun k_ => (P0_ k_ ∨ w.heap.size ≤ k_)) v0 x0_1) ∧ Aside0 (Below w.heap.size w w'))
 case atStart => exact ⟨(l0), (a1), sqE, H', ⟨Nat.le_refl _⟩, ⟨sqV HO0.out⟩, ⟨sqB⟩⟩
 case round =>
  clear H'
  try clear p2
  obtain ⟨x0_1, x1_1, rfl, HA, HK1, HO_0, HB⟩ := hrel
  cases gk with
  | zero => exact absurd HA.out (by simp [endonymref2_pack.l0])
  | succ k1 =>
   have H := HA.out
   clear HA
   simp only [endonymref2_pack.l0] at H
   replace H := Option.bind_eq_some_iff.mp H
   obtain ⟨t382, A30, H⟩ := H
   try dsimp only at H
   have A3 := Aside0.mk A30
   clear A30
   by_cases c4 : t382 > 53
   ·rw [if_pos c4] at H
    have c4b0 := decide_eq_true c4
    clear c4
    replace H := Option.bind_eq_some_iff.mp H
    obtain ⟨t383, A50, H⟩ := H
    try dsimp only at H
    have A5 := Aside0.mk A50
    clear A50
    have H' := Aside0.mk H
    clear H
    obtain ⟨Ao6, co6, eo6⟩ := Kd.V_slice HO_0.out
    subst eo6
    go_wp2_with (first | ((with_reducible refine gate_callee (f := 75) rfl ?_); refine goesL_ (some 6) rfl rfl Tryz.func75 (by kernel_rfl) rfl #[.slice Ao6 x0_1.length co6] rfl sqA ?_; (with_reducible refine (endonymref2_Length.calls k1 _ _ x0_1 t382 _ ?side1 ?side2 A3.out).mono ?_); (case side1 => repeat (first | exact (Kd.V_reads' HO_0.out).2.2 | (with_reducible refine Kd.C_alloc ?_ _) | (with_reducible refine Kd.C_drewN ?_ _) | (with_reducible refine Kd.C_drew ?_))); (case side2 => exact (Kd.V_reads' HO_0.out).2.1); rintro e w' ⟨rfl, ⟨nd, rfl⟩⟩; refine ⟨_, rfl, ?_⟩) | ((with_reducible refine gate_callee (f := 100) rfl ?_); refine goesL_ (some 9) rfl rfl Tryz.func100 (by kernel_rfl) rfl #[.slice Ao6 x0_1.length co6] rfl sqA ?_; (with_reducible refine (endonymref2_half.calls k1 _ _ x0_1 t383 _ ?side1 ?side2 A5.out).mono ?_); (case side1 => repeat (first | exact (Kd.V_reads' HO_0.out).2.2 | (with_reducible refine Kd.C_alloc ?_ _) | (with_reducible refine Kd.C_drewN ?_ _) | (with_reducible refine Kd.C_drew ?_))); (case side2 => exact (Kd.V_reads' HO_0.out).2.1); rintro e w7 ⟨v384, rfl, ho0, hb⟩; refine ⟨_, rfl, ?_⟩; have n0_ := Aside0.mk (Kd.V_elder' (sqV HO_0.out) (Kd.R_base ho0) hb); have n1_ := Aside0.mk (Kd.R_lower (Kd.R_newM (M := fun k_ => (w.heap.size ≤ k_)) ho0 (below_size sqB) (fun k_ h_ => h_)) (below_size sqB)); have n2_ := Aside0.mk (below_step sqB hb); clear HO_0; clear HB; have HO_0 := n0_; have HO385 := n1_; have HB := n2_; clear n0_ n1_ n2_; (try clear hb); (try clear hb2); (try clear hk); (try clear hi); (try clear ho0)))
    go_roundg k1
    case measure => have := HK1.out; omega
    case rel => exact ⟨(t383), (wrap64 (x1_1 + 1)), sqE, H', ⟨by have := HK1.out; omega⟩, ⟨Kd.V_mono (Kd.R_V (by (with_reducible repeat (first | apply Kd.R_alloc | apply Kd.R_drewN | apply Kd.R_drew)); exact Kd.R_mono HO385.out (fun _ hk => hk.1))) (fun k_ hk => by first | exact ⟨(.inr (hk.1)), hk.2⟩ | exact (.inr (hk)))⟩, ⟨sqB⟩⟩
   rw [if_neg c4] at H
   have c4b0 := decide_eq_false c4
   clear c4
   by_cases c8 : (x0_1.length : Int) = 0
   ·rw [if_pos c8] at H
    have c8b0 := beq_iff_eq.mpr c8
    have c8b1 := bne_eq_false_iff_eq.mpr c8
    clear c8
    obtain rfl := Option.some.inj H
    obtain ⟨Ao9, co9, eo9⟩ := Kd.V_slice HO_0.out
    subst eo9
    go_wp2_with (first | ((with_reducible refine gate_callee (f := 75) rfl ?_); refine goesL_ (some 6) rfl rfl Tryz.func75 (by kernel_rfl) rfl #[.slice Ao9 x0_1.length co9] rfl sqA ?_; (with_reducible refine (endonymref2_Length.calls k1 _ _ x0_1 t382 _ ?side1 ?side2 A3.out).mono ?_); (case side1 => repeat (first | exact (Kd.V_reads' HO_0.out).2.2 | (with_reducible refine Kd.C_alloc ?_ _) | (with_reducible refine Kd.C_drewN ?_ _) | (with_reducible refine Kd.C_drew ?_))); (case side2 => exact (Kd.V_reads' HO_0.out).2.1); rintro e w' ⟨rfl, ⟨nd, rfl⟩⟩; refine ⟨_, rfl, ?_⟩))
    go_ret
    exact ⟨sqE', sqB⟩
   rw [if_neg c8] at H
   have c8b0 := beq_eq_false_iff_ne.mpr c8
   have c8b1 := bne_iff_ne.mpr c8
   have c8b2 : ¬ (x0_1 = []) := fun h_ => c8 (by rw [h_]; rfl)
   have HC10 := Aside0.mk H
   clear H
   obtain ⟨Ao11, co11, eo11⟩ := Kd.V_slice HO_0.out
   subst eo11
   go_upto_block 2 with (first | ((with_reducible refine gate_callee (f := 75) rfl ?_); refine goesL_ (some 6) rfl rfl Tryz.func75 (by kernel_rfl) rfl #[.slice Ao11 x0_1.length co11] rfl sqA ?_; (with_reducible refine (endonymref2_Length.calls k1 _ _ x0_1 t382 _ ?side1 ?side2 A3.out).mono ?_); (case side1 => repeat (first | exact (Kd.V_reads' HO_0.out).2.2 | (with_reducible refine Kd.C_alloc ?_ _) | (with_reducible refine Kd.C_drewN ?_ _) | (with_reducible refine Kd.C_drew ?_))); (case side2 => exact (Kd.V_reads' HO_0.out).2.1); rintro e w' ⟨rfl, ⟨nd, rfl⟩⟩; refine ⟨_, rfl, ?_⟩))
   (try simp only [Act.put, List.setIfInBounds_toArray, List.set_cons_zero, List.set_cons_succ])
   go_cut [0, 1] (fun v0 v1 wc => ∃ (kq : Nat) (x0_9 : List Int) (x1_9 : Int), v1 = .int .i64 x1_9 ∧ Aside0 (endonymref2_pack.j2 kq x0_9 x1_9 = some r) ∧ Aside0 (kq ≤ k1) ∧ Aside0 (Kd.V (Kd.int .u32) 83 wc w.heap.size (fun k_ => (P0_ k_ ∨ w.heap.size ≤ k_)) v0 x0_9) ∧ Aside0 (Below w.heap.size w wc))
   case first =>
    have H := HC10.out
    clear HC10
    have H' := Aside0.mk H
    clear H
    go_wp2
    go_loopg [0, 1] k1 (fun kq v0 v1 w' => ∃ (x0_2 : List Int) (x1_2 : Int), v1 = .int .i64 x1_2 ∧ Aside0 (endonymref2_pack.l1 kq x0_2 x1_2 = some r) ∧ Aside0 (kq ≤ k1) ∧ Aside0 (Kd.V (Kd.int .u32) 83 w' w.heap.size (fun k_ => (P0_ k_ ∨ w.heap.size ≤ k_)) v0 x0_2) ∧ Aside0 (Below w.heap.size w w'))
    case atStart => exact ⟨(x0_1), (x1_1), sqE, H', ⟨Nat.le_refl _⟩, ⟨sqV HO_0.out⟩, ⟨sqB⟩⟩
    case round =>
     clear H'
     try clear c1
     try clear p2
     try clear c4
     try clear c4b0
     try clear p6
     try clear c7
     try clear c8
     try clear c8b0
     try clear c8b1
     try clear c8b2
     try clear c9
     try clear c10
     try clear p2
     obtain ⟨x0_2, x1_2, rfl, HA, HK2, HO_0, HB⟩ := hrel
     cases gk with
     | zero => exact absurd HA.out (by simp [endonymref2_pack.l1])
     | succ k2 =>
      have H := HA.out
      clear HA
      simp only [endonymref2_pack.l1] at H
      replace H := Option.bind_eq_some_iff.mp H
      obtain ⟨t386, A120, H⟩ := H
      try dsimp only at H
      have A12 := Aside0.mk A120
      clear A120
      by_cases c13 : t386 < 53
      ·rw [if_pos c13] at H
       have c13b0 := decide_eq_true c13
       clear c13
       (first | rw [c13b0] | (simp only [i64_w, i32_w]; rw [c13b0]) | skip)
       by_cases c14 : x1_2 > (-1074)
       ·rw [if_pos c14] at H
        have c14b0 := decide_eq_true c14
        clear c14
        replace H := Option.bind_eq_some_iff.mp H
        obtain ⟨t387, A150, H⟩ := H
        try dsimp only at H
        have A15 := Aside0.mk A150
        clear A150
        have H' := Aside0.mk H
        clear H
        obtain ⟨Ao16, co16, eo16⟩ := Kd.V_slice HO_0.out
        subst eo16
        go_wp2_with (first | ((with_reducible refine gate_callee (f := 75) rfl ?_); refine goesL_ (some 16) rfl rfl Tryz.func75 (by kernel_rfl) rfl #[.slice Ao16 x0_2.length co16] rfl sqA ?_; (with_reducible refine (endonymref2_Length.calls k2 _ _ x0_2 t386 _ ?side1 ?side2 A12.out).mono ?_); (case side1 => repeat (first | exact (Kd.V_reads' HO_0.out).2.2 | (with_reducible refine Kd.C_alloc ?_ _) | (with_reducible refine Kd.C_drewN ?_ _) | (with_reducible refine Kd.C_drew ?_))); (case side2 => exact (Kd.V_reads' HO_0.out).2.1); rintro e w' ⟨rfl, ⟨nd, rfl⟩⟩; refine ⟨_, rfl, ?_⟩) | ((with_reducible refine gate_callee (f := 74) rfl ?_); refine goesL_ (some 23) rfl rfl Tryz.func74 (by kernel_rfl) rfl #[.slice Ao16 x0_2.length co16, .int .i64 1] rfl sqA ?_; (with_reducible refine (endonymref2_Left.calls k2 _ _ x0_2 1 t387 _ ?side1 ?side2 A15.out).mono ?_); (case side1 => repeat (first | exact (Kd.V_reads' HO_0.out).2.2 | (with_reducible refine Kd.C_alloc ?_ _) | (with_reducible refine Kd.C_drewN ?_ _) | (with_reducible refine Kd.C_drew ?_))); (case side2 => exact (Kd.V_reads' HO_0.out).2.1); rintro e w17 ⟨v388, rfl, ho0, hb⟩; refine ⟨_, rfl, ?_⟩; have n0_ := Aside0.mk (Kd.V_elder' (sqV HO_0.out) (Kd.R_base ho0) hb); have n1_ := Aside0.mk (Kd.R_lower (Kd.R_newM (M := fun k_ => (w.heap.size ≤ k_)) ho0 (below_size sqB) (fun k_ h_ => h_)) (below_size sqB)); have n2_ := Aside0.mk (below_step sqB hb); clear HO_0; clear HB; have HO_0 := n0_; have HO389 := n1_; have HB := n2_; clear n0_ n1_ n2_; (try clear hb); (try clear hb2); (try clear hk); (try clear hi); (try clear ho0)))
        go_roundg k2
        case measure => have := HK1.out; have := HK2.out; omega
        case rel => exact ⟨(t387), (wrap64 (x1_2 - 1)), sqE, H', ⟨by have := HK1.out; have := HK2.out; omega⟩, ⟨Kd.V_mono (Kd.R_V (by (with_reducible repeat (first | apply Kd.R_alloc | apply Kd.R_drewN | apply Kd.R_drew)); exact Kd.R_mono HO389.out (fun _ hk => hk.1))) (fun k_ hk => by first | exact ⟨(.inr (hk.1)), hk.2⟩ | exact (.inr (hk)))⟩, ⟨sqB⟩⟩
       rw [if_neg c14] at H
       have c14b0 := decide_eq_false c14
       clear c14
       have H' := Aside0.mk H
       clear H
       obtain ⟨Ao18, co18, eo18⟩ := Kd.V_slice HO_0.out
       subst eo18
       go_wp2_with (first | ((with_reducible refine gate_callee (f := 75) rfl ?_); refine goesL_ (some 16) rfl rfl Tryz.func75 (by kernel_rfl) rfl #[.slice Ao18 x0_2.length co18] rfl sqA ?_; (with_reducible refine (endonymref2_Length.calls k2 _ _ x0_2 t386 _ ?side1 ?side2 A12.out).mono ?_); (case side1 => repeat (first | exact (Kd.V_reads' HO_0.out).2.2 | (with_reducible refine Kd.C_alloc ?_ _) | (with_reducible refine Kd.C_drewN ?_ _) | (with_reducible refine Kd.C_drew ?_))); (case side2 => exact (Kd.V_reads' HO_0.out).2.1); rintro e w' ⟨rfl, ⟨nd, rfl⟩⟩; refine ⟨_, rfl, ?_⟩))
       go_meet
       case rel => exact ⟨_, (x0_2), (x1_2), sqE, H', ⟨by have := HK1.out; have := HK2.out; first | omega | exact Nat.le_refl _⟩, ⟨sqV HO_0.out⟩, ⟨sqB⟩⟩
      rw [if_neg c13] at H
      have c13b0 := decide_eq_false c13
      clear c13
      (first | rw [c13b0] | (simp only [i64_w, i32_w]; rw [c13b0]) | skip)
      have H' := Aside0.mk H
      clear H
      obtain ⟨Ao19, co19, eo19⟩ := Kd.V_slice HO_0.out
      subst eo19
      go_wp2_with (first | ((with_reducible refine gate_callee (f := 75) rfl ?_); refine goesL_ (some 16) rfl rfl Tryz.func75 (by kernel_rfl) rfl #[.slice Ao19 x0_2.length co19] rfl sqA ?_; (with_reducible refine (endonymref2_Length.calls k2 _ _ x0_2 t386 _ ?side1 ?side2 A12.out).mono ?_); (case side1 => repeat (first | exact (Kd.V_reads' HO_0.out).2.2 | (with_reducible refine Kd.C_alloc ?_ _) | (with_reducible refine Kd.C_drewN ?_ _) | (with_reducible refine Kd.C_drew ?_))); (case side2 => exact (Kd.V_reads' HO_0.out).2.1); rintro e w' ⟨rfl, ⟨nd, rfl⟩⟩; refine ⟨_, rfl, ?_⟩))
      go_meet
      case rel => exact ⟨_, (x0_2), (x1_2), sqE, H', ⟨by have := HK1.out; have := HK2.out; first | omega | exact Nat.le_refl _⟩, ⟨sqV HO_0.out⟩, ⟨sqB⟩⟩
   case rest =>
    clear HC10
    try clear c1
    try clear p2
    try clear c4
    try clear c4b0
    try clear p6
    try clear c7
    try clear c8
    try clear c8b0
    try clear c8b1
    try clear c8b2
    try clear c9
    try clear c10
    try clear c13
    try clear c13b0
    try clear c14
    try clear c14b0
    try clear p2
    try clear p6
    obtain ⟨kq, x0_9, x1_9, rfl, HA, HJ9, HO_0, HB⟩ := hcut
    cases kq with
    | zero => exact absurd HA.out (by simp [endonymref2_pack.j2])
    | succ kj9 =>
     have H := HA.out
     clear HA
     simp only [endonymref2_pack.j2] at H
     replace H := Option.bind_eq_some_iff.mp H
     obtain ⟨t390, A200, H⟩ := H
     try dsimp only at H
     have A20 := Aside0.mk A200
     clear A200
     by_cases c21 : t390 < 53
     ·rw [if_pos c21] at H
      have c21b0 := decide_eq_true c21
      clear c21
      replace H := Option.bind_eq_some_iff.mp H
      obtain ⟨t391, A220, H⟩ := H
      try dsimp only at H
      have A22 := Aside0.mk A220
      clear A220
      obtain rfl := Option.some.inj H
      obtain ⟨Ao23, co23, eo23⟩ := Kd.V_slice HO_0.out
      subst eo23
      go_wp2_with (first | ((with_reducible refine gate_callee (f := 75) rfl ?_); refine goesL_ (some 27) rfl rfl Tryz.func75 (by kernel_rfl) rfl #[.slice Ao23 x0_9.length co23] rfl sqA ?_; (with_reducible refine (endonymref2_Length.calls kj9 _ _ x0_9 t390 _ ?side1 ?side2 A20.out).mono ?_); (case side1 => repeat (first | exact (Kd.V_reads' HO_0.out).2.2 | (with_reducible refine Kd.C_alloc ?_ _) | (with_reducible refine Kd.C_drewN ?_ _) | (with_reducible refine Kd.C_drew ?_))); (case side2 => exact (Kd.V_reads' HO_0.out).2.1); rintro e w' ⟨rfl, ⟨nd, rfl⟩⟩; refine ⟨_, rfl, ?_⟩) | ((with_reducible refine gate_callee (f := 78) rfl ?_); refine goesL_ (some 30) rfl rfl Tryz.func78 (by kernel_rfl) rfl #[.slice Ao23 x0_9.length co23] rfl sqA ?_; (with_reducible refine (endonymref2_value.calls kj9 _ _ x0_9 t391 _ ?side1 ?side2 A22.out).mono ?_); (case side1 => repeat (first | exact (Kd.V_reads' HO_0.out).2.2 | (with_reducible refine Kd.C_alloc ?_ _) | (with_reducible refine Kd.C_drewN ?_ _) | (with_reducible refine Kd.C_drew ?_))); (case side2 => exact (Kd.V_reads' HO_0.out).2.1); rintro e w' ⟨rfl, ⟨nd, rfl⟩⟩; refine ⟨_, rfl, ?_⟩))
      go_ret
      exact ⟨sqE', sqB⟩
     rw [if_neg c21] at H
     have c21b0 := decide_eq_false c21
     clear c21
     replace H := Option.bind_eq_some_iff.mp H
     obtain ⟨t392, A240, H⟩ := H
     try dsimp only at H
     have A24 := Aside0.mk A240
     clear A240
     obtain rfl := Option.some.inj H
     obtain ⟨Ao25, co25, eo25⟩ := Kd.V_slice HO_0.out
     subst eo25
     go_wp2_with (first | ((with_reducible refine gate_callee (f := 75) rfl ?_); refine goesL_ (some 27) rfl rfl Tryz.func75 (by kernel_rfl) rfl #[.slice Ao25 x0_9.length co25] rfl sqA ?_; (with_reducible refine (endonymref2_Length.calls kj9 _ _ x0_9 t390 _ ?side1 ?side2 A20.out).mono ?_); (case side1 => repeat (first | exact (Kd.V_reads' HO_0.out).2.2 | (with_reducible refine Kd.C_alloc ?_ _) | (with_reducible refine Kd.C_drewN ?_ _) | (with_reducible refine Kd.C_drew ?_))); (case side2 => exact (Kd.V_reads' HO_0.out).2.1); rintro e w' ⟨rfl, ⟨nd, rfl⟩⟩; refine ⟨_, rfl, ?_⟩) | ((with_reducible refine gate_callee (f := 78) rfl ?_); refine goesL_ (some 36) rfl rfl Tryz.func78 (by kernel_rfl) rfl #[.slice Ao25 x0_9.length co25] rfl sqA ?_; (with_reducible refine (endonymref2_value.calls kj9 _ _ x0_9 t392 _ ?side1 ?side2 A24.out).mono ?_); (case side1 => repeat (first | exact (Kd.V_reads' HO_0.out).2.2 | (with_reducible refine Kd.C_alloc ?_ _) | (with_reducible refine Kd.C_drewN ?_ _) | (with_reducible refine Kd.C_drew ?_))); (case side2 => exact (Kd.V_reads' HO_0.out).2.1); rintro e w' ⟨rfl, ⟨nd, rfl⟩⟩; refine ⟨_, rfl, ?_⟩))
     go_ret
     exact ⟨sqE', sqB⟩

/-! ### endonymref2_Near: function 62 -/
def endonymref2_Near.f (k : Nat) (l0 : List Int) (l1 : List Int) : Option (Int × Bool) := (endonymref2_Round.f k l0 l1 52 (-1074) 1024).bind fun bt393 => (if bt393.2.2 = true then ((endonymref2_pack.f k bt393.1 bt393.2.1).bind fun t398 => (some (t398, true))) else (some (0, false)))
theorem endonymref2_Near.mono : ∀ a0 a1 k, LeO (endonymref2_Near.f k a0 a1) (endonymref2_Near.f (k + 1) a0 a1) := by
 intro a0 a1 k
 unfold endonymref2_Near.f
 repeat' first | (with_reducible first | apply endonymref2_Round.mono | apply endonymref2_pack.mono | apply LeO.refl | apply LeO.none | refine LeO.ite ?_ ?_ | refine LeO.bind ?_ (fun _ => ?_)) | apply endonymref2_Round.mono | apply endonymref2_pack.mono | apply LeO.none | refine LeO.ite ?_ ?_ | refine LeO.bind ?_ (fun _ => ?_)
set_option maxHeartbeats 8000000 in
set_option maxRecDepth 100000 in
theorem endonymref2_Near.calls (k : Nat) (A0 : Option Addr) (c0 : Nat) (l0 : List Int) (A1 : Option Addr) (c1 : Nat) (l1 : List Int) (r1 : Int) (r2 : Bool) (w : World) (hr0 : Kd.C (Kd.int .u32) w A0 l0.length l0) (hc0 : l0.length ≤ c0) (hr1 : Kd.C (Kd.int .u32) w A1 l1.length l1) (hc1 : l1.length ≤ c1) (h : endonymref2_Near.f k l0 l1 = some (r1, r2)) :
  Calls Tryz.prog 62 #[.slice A0 l0.length c0, .slice A1 l1.length c1] w fun e w' => e = .returned (.tuple #[.int .u64 r1, .bool r2]) ∧ Below w.heap.size w w' := by
 have HR0 := Aside0.mk hr0
 have HC0 := Aside0.mk hc0
 clear hr0 hc0
 have HR1 := Aside0.mk hr1
 have HC1 := Aside0.mk hc1
 clear hr1 hc1
 have HB := Aside0.mk (Below.refl w.heap.size w)
 have H : ((endonymref2_Round.f k l0 l1 52 (-1074) 1024).bind fun bt393 => (if bt393.2.2 = true then ((endonymref2_pack.f k bt393.1 bt393.2.1).bind fun t398 => (some (t398, true))) else (some (0, false)))) = some (r1, r2) := h
 clear h
 replace H := Option.bind_eq_some_iff.mp H
 obtain ⟨⟨t393, t396, t397⟩, A30, H⟩ := H
 try dsimp only at H
 have A3 := Aside0.mk A30
 clear A30
 by_cases c4 : t397 = true
 ·subst c4
  have H1 : ((endonymref2_pack.f k t393 t396).bind fun t398 => (some (t398, true))) = some (r1, r2) := by rw [if_pos rfl] at H; exact H
  clear H
  have H := H1
  clear H1
  replace H := Option.bind_eq_some_iff.mp H
  obtain ⟨t398, A50, H⟩ := H
  try dsimp only at H
  have A5 := Aside0.mk A50
  clear A50
  simp only [Option.some.injEq, Prod.mk.injEq] at H
  obtain ⟨rfl, rfl⟩ := H
  go_enter Tryz.func62, Tryz.ntmps62
  go_wp2_with (first | ((with_reducible refine gate_callee (f := 90) rfl ?_); refine goesL_ (some 12) rfl rfl Tryz.func90 (by kernel_rfl) rfl #[.slice A0 l0.length c0, .slice A1 l1.length c1, .int .i64 52, .int .i64 (-1074), .int .i64 1024] rfl sqA ?_; (with_reducible refine (endonymref2_Round.calls k (fun k_ => k_ < w.heap.size) _ _ l0 (fun k_ => k_ < w.heap.size) _ _ l1 52 (-1074) 1024 t393 t396 true _ ?side1 ?side2 A3.out).mono ?_); (case side1 => exact Kd.V_mk HC0.out (Kd.F_below (Kd.C_F (Kd.heap_int .u32) HR0.out) sqB)); (case side2 => exact Kd.V_mk HC1.out (Kd.F_below (Kd.C_F (Kd.heap_int .u32) HR1.out) sqB)); rintro e w6 ⟨v394, rfl, ho0, hb⟩; refine ⟨_, rfl, ?_⟩; have n0_ := Aside0.mk (Kd.R_lower (Kd.R_mono (ok' := fun k_ => True) ho0 (fun _ hk_ => trivial)) (below_size sqB)); have n1_ := Aside0.mk (below_step sqB hb); clear HB; have HO395 := n0_; have HB := n1_; clear n0_ n1_; (try clear hb); (try clear hb2); (try clear hk); (try clear hi); (try clear ho0); obtain ⟨Ao7, co7, eo7⟩ := Kd.R_slice HO395.out; subst eo7) | ((with_reducible refine gate_callee (f := 91) rfl ?_); refine goesL_ (some 20) rfl rfl Tryz.func91 (by kernel_rfl) rfl #[.slice Ao7 t393.length co7, .int .i64 t396] rfl sqA ?_; (with_reducible refine (endonymref2_pack.calls k (fun k_ => some k_ = (.slice Ao7 t393.length co7 : Value).ownBlock) _ _ t393 t396 t398 _ ?side1 A5.out).mono ?_); (case side1 => exact Kd.R_V (Kd.R_tight rfl (HO395.out))); rintro e w8 ⟨rfl, hb⟩; refine ⟨_, rfl, ?_⟩; have n0_ := Aside0.mk (Kd.R_below (sqR HO395.out) hb); have n1_ := Aside0.mk (below_step sqB hb); clear HO395; clear HB; have HO395 := n0_; have HB := n1_; clear n0_ n1_; (try clear hb); (try clear hb2); (try clear hk); (try clear hi)))
  go_ret2
  exact ⟨sqE', sqB⟩
 replace c4 := Bool.eq_false_iff.mpr c4
 subst c4
 have H1 : (some (0, false)) = some (r1, r2) := by rw [if_neg (show ¬ (false = true) by decide)] at H; exact H
 clear H
 have H := H1
 clear H1
 simp only [Option.some.injEq, Prod.mk.injEq] at H
 obtain ⟨rfl, rfl⟩ := H
 go_enter Tryz.func62, Tryz.ntmps62
 go_wp2_with (first | ((with_reducible refine gate_callee (f := 90) rfl ?_); refine goesL_ (some 12) rfl rfl Tryz.func90 (by kernel_rfl) rfl #[.slice A0 l0.length c0, .slice A1 l1.length c1, .int .i64 52, .int .i64 (-1074), .int .i64 1024] rfl sqA ?_; (with_reducible refine (endonymref2_Round.calls k (fun k_ => k_ < w.heap.size) _ _ l0 (fun k_ => k_ < w.heap.size) _ _ l1 52 (-1074) 1024 t393 t396 false _ ?side1 ?side2 A3.out).mono ?_); (case side1 => exact Kd.V_mk HC0.out (Kd.F_below (Kd.C_F (Kd.heap_int .u32) HR0.out) sqB)); (case side2 => exact Kd.V_mk HC1.out (Kd.F_below (Kd.C_F (Kd.heap_int .u32) HR1.out) sqB)); rintro e w9 ⟨v394, rfl, ho0, hb⟩; refine ⟨_, rfl, ?_⟩; have n0_ := Aside0.mk (Kd.R_lower (Kd.R_mono (ok' := fun k_ => True) ho0 (fun _ hk_ => trivial)) (below_size sqB)); have n1_ := Aside0.mk (below_step sqB hb); clear HB; have HO395 := n0_; have HB := n1_; clear n0_ n1_; (try clear hb); (try clear hb2); (try clear hk); (try clear hi); (try clear ho0)))
 go_ret2
 exact ⟨sqE', sqB⟩

/-! ### endonymref2_Product: function 63 -/
mutual
def endonymref2_Product.l0 : Nat → List Int → List Int → List Int → Int → Option (List Int)
 | 0, _, _, _, _ => none
 | k + 1, x0, x1, x5, x6 => if x6 < (x0.length : Int) then (endonymref2_Product.l1 k x0 x1 x5 x6 0 0) else ((endonymref2_trim.f k x5).bind fun t402 => (some t402))
def endonymref2_Product.l1 : Nat → List Int → List Int → List Int → Int → Int → Int → Option (List Int)
 | 0, _, _, _, _, _, _ => none
 | k + 1, x0, x1, x5, x6, x7, x8 => if x8 < (x1.length : Int) then (if 0 ≤ (wrap64 (x6 + x8)) then (if (wrap64 (x6 + x8)) < (x5.length : Int) then (if 0 ≤ x6 then (if x6 < (x0.length : Int) then (if 0 ≤ x8 then (endonymref2_Product.l1 k x0 x1 (x5.set ((wrap64 (x6 + x8)) : Int).toNat (Go.bits .and .u32 ((((x7 + (rd x5 (wrap64 (x6 + x8))))) + (((rd x0 x6) * (rd x1 x8)))) % 4294967296) 65535)) x6 (((((x7 + (rd x5 (wrap64 (x6 + x8))))) + (((rd x0 x6) * (rd x1 x8)))) % 4294967296) / 65536) (wrap64 (x8 + 1))) else (none)) else (none)) else (none)) else (none)) else (none)) else (if 0 ≤ (wrap64 (x6 + (x1.length : Int))) then (if (wrap64 (x6 + (x1.length : Int))) < (x5.length : Int) then (endonymref2_Product.l0 k x0 x1 (x5.set ((wrap64 (x6 + (x1.length : Int))) : Int).toNat (((rd x5 (wrap64 (x6 + (x1.length : Int)))) + x7) % 4294967296)) (wrap64 (x6 + 1))) else (none)) else (none))
end
def endonymref2_Product.f (k : Nat) (l0 : List Int) (l1 : List Int) : Option (List Int) := if 0 ≤ (wrap64 ((wrap64 ((l0.length : Int) + (l1.length : Int))) + 1)) then (if (wrap64 ((wrap64 ((l0.length : Int) + (l1.length : Int))) + 1) : Int).toNat ≤ 70368744177664 then (endonymref2_Product.l0 k l0 l1 (List.replicate (wrap64 ((wrap64 ((l0.length : Int) + (l1.length : Int))) + 1) : Int).toNat 0) 0) else (none)) else (none)
theorem endonymref2_Product.mono_l : ∀ k, (∀ y0 y1 y2 y3, LeO (endonymref2_Product.l0 k y0 y1 y2 y3) (endonymref2_Product.l0 (k + 1) y0 y1 y2 y3)) ∧ (∀ y0 y1 y2 y3 y4 y5, LeO (endonymref2_Product.l1 k y0 y1 y2 y3 y4 y5) (endonymref2_Product.l1 (k + 1) y0 y1 y2 y3 y4 y5))
 | 0 => ⟨fun _ _ _ _ r h => by simp [endonymref2_Product.l0] at h, fun _ _ _ _ _ _ r h => by simp [endonymref2_Product.l1] at h⟩
 | k + 1 => by
  obtain ⟨ih0, ih1⟩ := endonymref2_Product.mono_l k
  refine ⟨?_, ?_⟩
  ·intro y0 y1 y2 y3
   unfold endonymref2_Product.l0
   repeat' first | (with_reducible first | apply ih0 | apply ih1 | apply endonymref2_trim.mono | apply LeO.refl | apply LeO.none | refine LeO.ite ?_ ?_ | refine LeO.bind ?_ (fun _ => ?_)) | apply ih0 | apply ih1 | apply endonymref2_trim.mono | apply LeO.none | refine LeO.ite ?_ ?_ | refine LeO.bind ?_ (fun _ => ?_)
  intro y0 y1 y2 y3 y4 y5
  unfold endonymref2_Product.l1
  repeat' first | (with_reducible first | apply ih0 | apply ih1 | apply endonymref2_trim.mono | apply LeO.refl | apply LeO.none | refine LeO.ite ?_ ?_ | refine LeO.bind ?_ (fun _ => ?_)) | apply ih0 | apply ih1 | apply endonymref2_trim.mono | apply LeO.none | refine LeO.ite ?_ ?_ | refine LeO.bind ?_ (fun _ => ?_)
theorem endonymref2_Product.mono : ∀ a0 a1 k, LeO (endonymref2_Product.f k a0 a1) (endonymref2_Product.f (k + 1) a0 a1) := by
 intro a0 a1 k
 obtain ⟨ih0, ih1⟩ := endonymref2_Product.mono_l k
 unfold endonymref2_Product.f
 repeat' first | (with_reducible first | apply ih0 | apply ih1 | apply endonymref2_trim.mono | apply LeO.refl | apply LeO.none | refine LeO.ite ?_ ?_ | refine LeO.bind ?_ (fun _ => ?_)) | apply ih0 | apply ih1 | apply endonymref2_trim.mono | apply LeO.none | refine LeO.ite ?_ ?_ | refine LeO.bind ?_ (fun _ => ?_)
set_option maxHeartbeats 8000000 in
set_option maxRecDepth 100000 in
theorem endonymref2_Product.calls (k : Nat) (A0 : Option Addr) (c0 : Nat) (l0 : List Int) (A1 : Option Addr) (c1 : Nat) (l1 : List Int) (r : List Int) (w : World) (hr0 : Kd.C (Kd.int .u32) w A0 l0.length l0) (hc0 : l0.length ≤ c0) (hr1 : Kd.C (Kd.int .u32) w A1 l1.length l1) (hc1 : l1.length ≤ c1) (h : endonymref2_Product.f k l0 l1 = some r) :
  Calls Tryz.prog 63 #[.slice A0 l0.length c0, .slice A1 l1.length c1] w fun e w' => ∃ v0_ : Value, e = .returned (v0_) ∧ Kd.R (Kd.int .u32) 83 w' w.heap.size (fun _ => True) v0_ r ∧ Below w.heap.size w w' := by
 have HR0 := Aside0.mk hr0
 have HC0 := Aside0.mk hc0
 clear hr0 hc0
 have HR1 := Aside0.mk hr1
 have HC1 := Aside0.mk hc1
 clear hr1 hc1
 have HB := Aside0.mk (Below.refl w.heap.size w)
 have H : (if 0 ≤ (wrap64 ((wrap64 ((l0.length : Int) + (l1.length : Int))) + 1)) then (if (wrap64 ((wrap64 ((l0.length : Int) + (l1.length : Int))) + 1) : Int).toNat ≤ 70368744177664 then (endonymref2_Product.l0 k l0 l1 (List.replicate (wrap64 ((wrap64 ((l0.length : Int) + (l1.length : Int))) + 1) : Int).toNat 0) 0) else (none)) else (none)) = some r := h
 clear h
 obtain ⟨ji3, hji3⟩ : ∃ j_ : Int, (wrap64 ((wrap64 ((l0.length : Int) + (l1.length : Int))) + 1)) = j_ := ⟨_, rfl⟩
 replace H : (if 0 ≤ (ji3) then (if (ji3 : Int).toNat ≤ 70368744177664 then (endonymref2_Product.l0 k l0 l1 (List.replicate (ji3 : Int).toNat 0) 0) else (none)) else (none)) = some r := by first | (rw [hji3] at H; exact H) | (simp only [hji3] at H ⊢; exact H)
 have hji3w : (IntKind.i64.wrap ((wrap64 ((l0.length : Int) + (l1.length : Int))) + 1)) = ji3 := (i64_w _).trans hji3
 by_cases c4 : 0 ≤ (ji3)
 case neg => rw [if_neg c4] at H; exact absurd H (by simp)
 rw [if_pos c4] at H
 have c4b0 := eq_true c4
 have c4b1 := decide_eq_true c4
 clear c4
 by_cases c5 : (ji3 : Int).toNat ≤ 70368744177664
 case neg => rw [if_neg c5] at H; exact absurd H (by simp)
 rw [if_pos c5] at H
 have c5b0 := eq_true c5
 have c5b1 := decide_eq_true c5
 clear c5
 obtain ⟨y399, hy399⟩ : ∃ y_ : List Int, y_ = (List.replicate (ji3 : Int).toNat 0) := ⟨_, rfl⟩
 replace H : (endonymref2_Product.l0 k l0 l1 y399 0) = some r := by first | (rw [hy399]; with_reducible exact H) | (have H2_ := (Option.bind_some _ _).symm.trans H; rw [hy399]; with_reducible exact H2_) | (have H2_ := (Option.bind_some _ _).symm.trans H; with_reducible exact H2_) | with_reducible exact H | (rw [hy399]; exact H) | exact H
 have Ny399 := Aside0.mk hy399
 clear hy399
 have H' := Aside0.mk H
 clear H
 go_enter Tryz.func63, Tryz.ntmps63
 go_wp2_with (first | ((with_reducible refine gate_dst (N := 15) rfl ?_); refine Kd.R_make (Kd.int .u32) _ 83 rfl (N := 15) rfl 71 _ _ rfl ji3 rfl rfl Tryz.underlying71 (.int .u32 0) 4 info83 rfl (by decide) (by omega) 0 (ok := fun _ => True) (okp := fun _ => True) rfl (fun _ hk => hk) trivial sqD (Nat.le_trans (Nat.mul_le_mul_right _ (sqD : ji3.toNat ≤ 70368744177664)) (by omega)) (Below.refl _ _) (Nat.le_refl _) ?_; intro v400 w6 ho7 hb hg_ hnew_; clear hg_ hnew_; (first | rw [← Ny399.out] at ho7 | (simp only [Int.reduceToNat] at ho7; rw [← Ny399.out] at ho7)); have n0_ := Aside0.mk (Kd.R_lower ho7 (below_size sqB)); have n1_ := Aside0.mk (below_step sqB hb); clear HB; have HO401 := n0_; have HB := n1_; clear n0_ n1_; clear hb ho7))
 repeat (go_quiet (first | ((with_reducible refine gate_dst (N := 15) rfl ?_); refine Kd.R_make (Kd.int .u32) _ 83 rfl (N := 15) rfl 71 _ _ rfl ji3 rfl rfl Tryz.underlying71 (.int .u32 0) 4 info83 rfl (by decide) (by omega) 0 (ok := fun _ => True) (okp := fun _ => True) rfl (fun _ hk => hk) trivial sqD (Nat.le_trans (Nat.mul_le_mul_right _ (sqD : ji3.toNat ≤ 70368744177664)) (by omega)) (Below.refl _ _) (Nat.le_refl _) ?_; intro v400 w6 ho7 hb hg_ hnew_; clear hg_ hnew_; (first | rw [← Ny399.out] at ho7 | (simp only [Int.reduceToNat] at ho7; rw [← Ny399.out] at ho7)); have n0_ := Aside0.mk (Kd.R_lower ho7 (below_size sqB)); have n1_ := Aside0.mk (below_step sqB hb); clear HB; have HO401 := n0_; have HB := n1_; clear n0_ n1_; clear hb ho7)); try go_wp2_with (first | ((with_reducible refine gate_dst (N := 15) rfl ?_); refine Kd.R_make (Kd.int .u32) _ 83 rfl (N := 15) rfl 71 _ _ rfl ji3 rfl rfl Tryz.underlying71 (.int .u32 0) 4 info83 rfl (by decide) (by omega) 0 (ok := fun _ => True) (okp := fun _ => True) rfl (fun _ hk => hk) trivial sqD (Nat.le_trans (Nat.mul_le_mul_right _ (sqD : ji3.toNat ≤ 70368744177664)) (by omega)) (Below.refl _ _) (Nat.le_refl _) ?_; intro v400 w6 ho7 hb hg_ hnew_; clear hg_ hnew_; (first | rw [← Ny399.out] at ho7 | (simp only [Int.reduceToNat] at ho7; rw [← Ny399.out] at ho7)); have n0_ := Aside0.mk (Kd.R_lower ho7 (below_size sqB)); have n1_ := Aside0.mk (below_step sqB hb); clear HB; have HO401 := n0_; have HB := n1_; clear n0_ n1_; clear hb ho7)))
 try simp only [Act.put, List.setIfInBounds_toArray, List.set_cons_zero, List.set_cons_succ]
 go_loopg [6] k (fun kq v6 w' => ∃ (x5_1 : List Int) (x6_1 : Int), v6 = .int .i64 x6_1 ∧ Aside0 (endonymref2_Product.l0 kq l0 l1 x5_1 x6_1 = some r) ∧ Aside0 (kq ≤ k) ∧ Aside0 (Kd.R (Kd.int .u32) 83 w' w.heap.size (fun _ => True) v400 x5_1) ∧ Aside0 (Below w.heap.size w w'))
 case atStart => exact ⟨(y399), (0), sqE, H', ⟨Nat.le_refl _⟩, ⟨sqR HO401.out⟩, ⟨sqB⟩⟩
 case round =>
  clear H'
  try clear c1
  try clear p2
  try clear c4
  try clear c4b0
  try clear c4b1
  try clear c5
  try clear c5b0
  try clear c5b1
  try clear c6
  try clear p6
  obtain ⟨x5_1, x6_1, rfl, HA, HK1, HO_5, HB⟩ := hrel
  cases gk with
  | zero => exact absurd HA.out (by simp [endonymref2_Product.l0])
  | succ k1 =>
   have H := HA.out
   clear HA
   simp only [endonymref2_Product.l0] at H
   by_cases c8 : x6_1 < (l0.length : Int)
   ·rw [if_pos c8] at H
    have c8b0 := decide_eq_true c8
    clear c8
    have H' := Aside0.mk H
    clear H
    go_wp2
    repeat (go_quiet (fail); try go_wp2)
    go_loopg [7, 8] k1 (fun kq v7 v8 w' => ∃ (x5_2 : List Int) (x7_2 : Int) (x8_2 : Int), v7 = .int .u32 x7_2 ∧ v8 = .int .i64 x8_2 ∧ Aside0 (endonymref2_Product.l1 kq l0 l1 x5_2 x6_1 x7_2 x8_2 = some r) ∧ Aside0 (kq ≤ k1) ∧ Aside0 (Kd.R (Kd.int .u32) 83 w' w.heap.size (fun _ => True) v400 x5_2) ∧ Aside0 (Below w.heap.size w w'))
    case atStart => exact ⟨(x5_1), (0), (0), sqE, sqE, H', ⟨Nat.le_refl _⟩, ⟨sqR HO_5.out⟩, ⟨sqB⟩⟩
    case round =>
     clear H'
     try clear c1
     try clear p2
     try clear c4
     try clear c4b0
     try clear c4b1
     try clear c5
     try clear c5b0
     try clear c5b1
     try clear c6
     try clear p6
     try clear c8
     try clear c8b0
     try clear p2
     try clear p6
     obtain ⟨x5_2, x7_2, x8_2, rfl, rfl, HA, HK2, HO_5, HB⟩ := hrel
     cases gk with
     | zero => exact absurd HA.out (by simp [endonymref2_Product.l1])
     | succ k2 =>
      have H := HA.out
      clear HA
      simp only [endonymref2_Product.l1] at H
      by_cases c9 : x8_2 < (l1.length : Int)
      ·rw [if_pos c9] at H
       have c9b0 := decide_eq_true c9
       clear c9
       obtain ⟨ji10, hji10⟩ : ∃ j_ : Int, (wrap64 (x6_1 + x8_2)) = j_ := ⟨_, rfl⟩
       replace H : (if 0 ≤ (ji10) then (if (ji10) < (x5_2.length : Int) then (if 0 ≤ x6_1 then (if x6_1 < (l0.length : Int) then (if 0 ≤ x8_2 then (endonymref2_Product.l1 k2 l0 l1 (x5_2.set ((ji10) : Int).toNat (Go.bits .and .u32 ((((x7_2 + (rd x5_2 (ji10)))) + (((rd l0 x6_1) * (rd l1 x8_2)))) % 4294967296) 65535)) x6_1 (((((x7_2 + (rd x5_2 (ji10)))) + (((rd l0 x6_1) * (rd l1 x8_2)))) % 4294967296) / 65536) (wrap64 (x8_2 + 1))) else (none)) else (none)) else (none)) else (none)) else (none)) = some r := by first | (rw [hji10] at H; exact H) | (simp only [hji10] at H ⊢; exact H)
       have hji10w : (IntKind.i64.wrap (x6_1 + x8_2)) = ji10 := (i64_w _).trans hji10
       by_cases c11 : 0 ≤ (ji10)
       case neg => rw [if_neg c11] at H; exact absurd H (by simp)
       rw [if_pos c11] at H
       have c11b0 := decide_eq_true c11
       clear c11
       by_cases c12 : (ji10) < (x5_2.length : Int)
       case neg => rw [if_neg c12] at H; exact absurd H (by simp)
       rw [if_pos c12] at H
       have c12b0 := decide_eq_true c12
       clear c12
       by_cases c13 : 0 ≤ x6_1
       case neg => rw [if_neg c13] at H; exact absurd H (by simp)
       rw [if_pos c13] at H
       have c13b0 := decide_eq_true c13
       clear c13
       by_cases c14 : x6_1 < (l0.length : Int)
       case neg => rw [if_neg c14] at H; exact absurd H (by simp)
       rw [if_pos c14] at H
       have c14b0 := decide_eq_true c14
       clear c14
       by_cases c15 : 0 ≤ x8_2
       case neg => rw [if_neg c15] at H; exact absurd H (by simp)
       rw [if_pos c15] at H
       have c15b0 := decide_eq_true c15
       clear c15
       obtain ⟨y408, hy408⟩ : ∃ y_ : List Int, y_ = (x5_2.set ((ji10) : Int).toNat (Go.bits .and .u32 ((((x7_2 + (rd x5_2 (ji10)))) + (((rd l0 x6_1) * (rd l1 x8_2)))) % 4294967296) 65535)) := ⟨_, rfl⟩
       replace H : (endonymref2_Product.l1 k2 l0 l1 y408 x6_1 (((((x7_2 + (rd x5_2 (ji10)))) + (((rd l0 x6_1) * (rd l1 x8_2)))) % 4294967296) / 65536) (wrap64 (x8_2 + 1))) = some r := by first | (rw [hy408]; with_reducible exact H) | (have H2_ := (Option.bind_some _ _).symm.trans H; rw [hy408]; with_reducible exact H2_) | (have H2_ := (Option.bind_some _ _).symm.trans H; with_reducible exact H2_) | with_reducible exact H | (rw [hy408]; exact H) | exact H
       have Ny408 := Aside0.mk hy408
       clear hy408
       have H' := Aside0.mk H
       clear H
       obtain ⟨Ao17, co17, eo17⟩ := Kd.R_slice HO_5.out
       subst eo17
       have p405 : 0 ≤ ((ji10) : Int) := sqD
       have q405 : (ji10) < (x5_2.length : Int) := sqD
       obtain ⟨ad405, e405, hx405_0⟩ := Kd.at_int (Kd.R_reads' HO_5.out).2.2 (ji10) p405 q405
       cases e405
       replace p405 := eq_true p405
       replace q405 := eq_true q405
       have p406 : 0 ≤ (x6_1 : Int) := sqD
       have q406 : x6_1 < (l0.length : Int) := sqD
       obtain ⟨ad406, e406, hx406_0⟩ := Kd.at_int HR0.out x6_1 p406 q406
       cases e406
       replace hx406_0 := (HB.out.cell (World.block_lt_of_cell? w _ hx406_0)).trans hx406_0
       replace p406 := eq_true p406
       replace q406 := eq_true q406
       have p407 : 0 ≤ (x8_2 : Int) := sqD
       have q407 : x8_2 < (l1.length : Int) := sqD
       obtain ⟨ad407, e407, hx407_0⟩ := Kd.at_int HR1.out x8_2 p407 q407
       cases e407
       replace hx407_0 := (HB.out.cell (World.block_lt_of_cell? w _ hx407_0)).trans hx407_0
       replace p407 := eq_true p407
       replace q407 := eq_true q407
       have p16 : 0 ≤ ((ji10) : Int) := sqD
       have q16 : ((ji10) : Int) < ((x5_2.length : Int) : Int) := sqD
       obtain ⟨go16, co16, eo16, gb16, gl16, cl16, HG16⟩ := Kd.R_form HO_5.out (by omega)
       (first | cases eo16 | (injection eo16 with ea_ en_ ec_; (first | subst ea_ | (injection ea_ with ea_; subst ea_)); subst ec_; clear en_))
       have GB16 := Aside0.mk gb16
       have GG16 := Aside0.mk HG16
       clear gb16 gl16 HG16
       (first | simp only [add_plain] at hx405_0 | skip)
       obtain ⟨hx16_0, hf16_0⟩ := Kd.R_celln 0 HO_5.out ((ji10) : Int) p16 q16
       replace p16 := eq_true p16
       replace q16 := eq_true q16
       have HP18 := Kd.R_putg HO_5.out ((ji10) : Int) (Go.bits .and .u32 ((((x7_2 + (rd x5_2 (ji10)))) + (((rd l0 x6_1) * (rd l1 x8_2)))) % 4294967296) 65535)
       go_wp2_with (first | ((with_reducible refine gate_store (t := 83) (p := 52) rfl ?_); (try (rw [drewN_self wr]; generalize hq_ : World.drewN wr _ = wr; have n0_ := Aside0.mk (Kd.R_at hq_ HO_5.out); have n1_ := Aside0.mk (below_at hq_ HB.out); clear hq_ HO_5 HB; have HO_5 := n0_; have HB := n1_; clear n0_ n1_; (try (obtain ⟨hx16_0, hf16_0⟩ := Kd.R_celln 0 HO_5.out ((ji10) : Int) (of_eq_true p16) (of_eq_true q16))); (try (have HP18 := Kd.R_putg HO_5.out ((ji10) : Int) (Go.bits .and .u32 ((((x7_2 + (rd x5_2 (ji10)))) + (((rd l0 x6_1) * (rd l1 x8_2)))) % 4294967296) 65535))))); refine store_event (t := 83) (p := 52) (v := ?vo_w19) (w1 := (wr.setCell ⟨go16, ((ji10) : Int).toNat, none⟩ (.int .u32 (Go.bits .and .u32 ((((x7_2 + (rd x5_2 (ji10)))) + (((rd l0 x6_1) * (rd l1 x8_2)))) % 4294967296) 65535)))) ?hg ?ho ?hn ?hr ?_; (case ho => rfl); (case hg => rfl); (case hn => rfl); (case hr => first | (go_simp; done) | (go_simp; rfl)); intro w19 hw; have hg : wr.grownBy w19 (some go16) := (by rw [hw]; exact HP18.2); have hp_ : Kd.R (Kd.int .u32) 83 w19 w.heap.size (fun _ => True) (.slice (some ⟨go16, 0, none⟩) x5_2.length co17) y408 := (by rw [hw, Ny408.out]; exact HP18.1); clear HP18; have n0_ := Aside0.mk (hp_); have n1_ := Aside0.mk ((by rw [hw]; exact below_set (HB.out) GB16.out : Below w.heap.size w w19)); clear HO_5; clear HB; have HO_5 := n0_; have HB := n1_; clear n0_ n1_; clear hg hw hp_))
       repeat (go_quiet (first | ((with_reducible refine gate_store (t := 83) (p := 52) rfl ?_); (try (rw [drewN_self wr]; generalize hq_ : World.drewN wr _ = wr; have n0_ := Aside0.mk (Kd.R_at hq_ HO_5.out); have n1_ := Aside0.mk (below_at hq_ HB.out); clear hq_ HO_5 HB; have HO_5 := n0_; have HB := n1_; clear n0_ n1_; (try (obtain ⟨hx16_0, hf16_0⟩ := Kd.R_celln 0 HO_5.out ((ji10) : Int) (of_eq_true p16) (of_eq_true q16))); (try (have HP18 := Kd.R_putg HO_5.out ((ji10) : Int) (Go.bits .and .u32 ((((x7_2 + (rd x5_2 (ji10)))) + (((rd l0 x6_1) * (rd l1 x8_2)))) % 4294967296) 65535))))); refine store_event (t := 83) (p := 52) (v := ?vo_w19) (w1 := (wr.setCell ⟨go16, ((ji10) : Int).toNat, none⟩ (.int .u32 (Go.bits .and .u32 ((((x7_2 + (rd x5_2 (ji10)))) + (((rd l0 x6_1) * (rd l1 x8_2)))) % 4294967296) 65535)))) ?hg ?ho ?hn ?hr ?_; (case ho => rfl); (case hg => rfl); (case hn => rfl); (case hr => first | (go_simp; done) | (go_simp; rfl)); intro w19 hw; have hg : wr.grownBy w19 (some go16) := (by rw [hw]; exact HP18.2); have hp_ : Kd.R (Kd.int .u32) 83 w19 w.heap.size (fun _ => True) (.slice (some ⟨go16, 0, none⟩) x5_2.length co17) y408 := (by rw [hw, Ny408.out]; exact HP18.1); clear HP18; have n0_ := Aside0.mk (hp_); have n1_ := Aside0.mk ((by rw [hw]; exact below_set (HB.out) GB16.out : Below w.heap.size w w19)); clear HO_5; clear HB; have HO_5 := n0_; have HB := n1_; clear n0_ n1_; clear hg hw hp_)); try go_wp2_with (first | ((with_reducible refine gate_store (t := 83) (p := 52) rfl ?_); (try (rw [drewN_self wr]; generalize hq_ : World.drewN wr _ = wr; have n0_ := Aside0.mk (Kd.R_at hq_ HO_5.out); have n1_ := Aside0.mk (below_at hq_ HB.out); clear hq_ HO_5 HB; have HO_5 := n0_; have HB := n1_; clear n0_ n1_; (try (obtain ⟨hx16_0, hf16_0⟩ := Kd.R_celln 0 HO_5.out ((ji10) : Int) (of_eq_true p16) (of_eq_true q16))); (try (have HP18 := Kd.R_putg HO_5.out ((ji10) : Int) (Go.bits .and .u32 ((((x7_2 + (rd x5_2 (ji10)))) + (((rd l0 x6_1) * (rd l1 x8_2)))) % 4294967296) 65535))))); refine store_event (t := 83) (p := 52) (v := ?vo_w19) (w1 := (wr.setCell ⟨go16, ((ji10) : Int).toNat, none⟩ (.int .u32 (Go.bits .and .u32 ((((x7_2 + (rd x5_2 (ji10)))) + (((rd l0 x6_1) * (rd l1 x8_2)))) % 4294967296) 65535)))) ?hg ?ho ?hn ?hr ?_; (case ho => rfl); (case hg => rfl); (case hn => rfl); (case hr => first | (go_simp; done) | (go_simp; rfl)); intro w19 hw; have hg : wr.grownBy w19 (some go16) := (by rw [hw]; exact HP18.2); have hp_ : Kd.R (Kd.int .u32) 83 w19 w.heap.size (fun _ => True) (.slice (some ⟨go16, 0, none⟩) x5_2.length co17) y408 := (by rw [hw, Ny408.out]; exact HP18.1); clear HP18; have n0_ := Aside0.mk (hp_); have n1_ := Aside0.mk ((by rw [hw]; exact below_set (HB.out) GB16.out : Below w.heap.size w w19)); clear HO_5; clear HB; have HO_5 := n0_; have HB := n1_; clear n0_ n1_; clear hg hw hp_)))
       go_roundg k2
       case measure => have := HK1.out; have := HK2.out; omega
       case rel => exact ⟨(y408), (((((x7_2 + (rd x5_2 (ji10)))) + (((rd l0 x6_1) * (rd l1 x8_2)))) % 4294967296) / 65536), (wrap64 (x8_2 + 1)), (by first | rfl | (simp; done) | (simp only [← hji10] <;> (first | rfl | simp)) | (simp [*]; done)), sqE, H', ⟨by have := HK1.out; have := HK2.out; omega⟩, ⟨sqR HO_5.out⟩, ⟨sqB⟩⟩
      rw [if_neg c9] at H
      have c9b0 := decide_eq_false c9
      clear c9
      obtain ⟨ji20, hji20⟩ : ∃ j_ : Int, (wrap64 (x6_1 + (l1.length : Int))) = j_ := ⟨_, rfl⟩
      replace H : (if 0 ≤ (ji20) then (if (ji20) < (x5_2.length : Int) then (endonymref2_Product.l0 k2 l0 l1 (x5_2.set ((ji20) : Int).toNat (((rd x5_2 (ji20)) + x7_2) % 4294967296)) (wrap64 (x6_1 + 1))) else (none)) else (none)) = some r := by first | (rw [hji20] at H; exact H) | (simp only [hji20] at H ⊢; exact H)
      have hji20w : (IntKind.i64.wrap (x6_1 + (l1.length : Int))) = ji20 := (i64_w _).trans hji20
      by_cases c21 : 0 ≤ (ji20)
      case neg => rw [if_neg c21] at H; exact absurd H (by simp)
      rw [if_pos c21] at H
      have c21b0 := decide_eq_true c21
      clear c21
      by_cases c22 : (ji20) < (x5_2.length : Int)
      case neg => rw [if_neg c22] at H; exact absurd H (by simp)
      rw [if_pos c22] at H
      have c22b0 := decide_eq_true c22
      clear c22
      obtain ⟨y410, hy410⟩ : ∃ y_ : List Int, y_ = (x5_2.set ((ji20) : Int).toNat (((rd x5_2 (ji20)) + x7_2) % 4294967296)) := ⟨_, rfl⟩
      replace H : (endonymref2_Product.l0 k2 l0 l1 y410 (wrap64 (x6_1 + 1))) = some r := by first | (rw [hy410]; with_reducible exact H) | (have H2_ := (Option.bind_some _ _).symm.trans H; rw [hy410]; with_reducible exact H2_) | (have H2_ := (Option.bind_some _ _).symm.trans H; with_reducible exact H2_) | with_reducible exact H | (rw [hy410]; exact H) | exact H
      have Ny410 := Aside0.mk hy410
      clear hy410
      have H' := Aside0.mk H
      clear H
      obtain ⟨Ao24, co24, eo24⟩ := Kd.R_slice HO_5.out
      subst eo24
      have p409 : 0 ≤ ((ji20) : Int) := sqD
      have q409 : (ji20) < (x5_2.length : Int) := sqD
      obtain ⟨ad409, e409, hx409_0⟩ := Kd.at_int (Kd.R_reads' HO_5.out).2.2 (ji20) p409 q409
      cases e409
      replace p409 := eq_true p409
      replace q409 := eq_true q409
      have p23 : 0 ≤ ((ji20) : Int) := sqD
      have q23 : ((ji20) : Int) < ((x5_2.length : Int) : Int) := sqD
      obtain ⟨go23, co23, eo23, gb23, gl23, cl23, HG23⟩ := Kd.R_form HO_5.out (by omega)
      (first | cases eo23 | (injection eo23 with ea_ en_ ec_; (first | subst ea_ | (injection ea_ with ea_; subst ea_)); subst ec_; clear en_))
      have GB23 := Aside0.mk gb23
      have GG23 := Aside0.mk HG23
      clear gb23 gl23 HG23
      (first | simp only [add_plain] at hx409_0 | skip)
      obtain ⟨hx23_0, hf23_0⟩ := Kd.R_celln 0 HO_5.out ((ji20) : Int) p23 q23
      replace p23 := eq_true p23
      replace q23 := eq_true q23
      have HP25 := Kd.R_putg HO_5.out ((ji20) : Int) (((rd x5_2 (ji20)) + x7_2) % 4294967296)
      go_wp2_with (first | ((with_reducible refine gate_store (t := 83) (p := 69) rfl ?_); (try (rw [drewN_self wr]; generalize hq_ : World.drewN wr _ = wr; have n0_ := Aside0.mk (Kd.R_at hq_ HO_5.out); have n1_ := Aside0.mk (below_at hq_ HB.out); clear hq_ HO_5 HB; have HO_5 := n0_; have HB := n1_; clear n0_ n1_; (try (obtain ⟨hx23_0, hf23_0⟩ := Kd.R_celln 0 HO_5.out ((ji20) : Int) (of_eq_true p23) (of_eq_true q23))); (try (have HP25 := Kd.R_putg HO_5.out ((ji20) : Int) (((rd x5_2 (ji20)) + x7_2) % 4294967296))))); refine store_event (t := 83) (p := 69) (v := ?vo_w26) (w1 := (wr.setCell ⟨go23, ((ji20) : Int).toNat, none⟩ (.int .u32 (((rd x5_2 (ji20)) + x7_2) % 4294967296)))) ?hg ?ho ?hn ?hr ?_; (case ho => rfl); (case hg => rfl); (case hn => rfl); (case hr => first | (go_simp; done) | (go_simp; rfl)); intro w26 hw; have hg : wr.grownBy w26 (some go23) := (by rw [hw]; exact HP25.2); have hp_ : Kd.R (Kd.int .u32) 83 w26 w.heap.size (fun _ => True) (.slice (some ⟨go23, 0, none⟩) x5_2.length co24) y410 := (by rw [hw, Ny410.out]; exact HP25.1); clear HP25; have n0_ := Aside0.mk (hp_); have n1_ := Aside0.mk ((by rw [hw]; exact below_set (HB.out) GB23.out : Below w.heap.size w w26)); clear HO_5; clear HB; have HO_5 := n0_; have HB := n1_; clear n0_ n1_; clear hg hw hp_))
      repeat (go_quiet (first | ((with_reducible refine gate_store (t := 83) (p := 69) rfl ?_); (try (rw [drewN_self wr]; generalize hq_ : World.drewN wr _ = wr; have n0_ := Aside0.mk (Kd.R_at hq_ HO_5.out); have n1_ := Aside0.mk (below_at hq_ HB.out); clear hq_ HO_5 HB; have HO_5 := n0_; have HB := n1_; clear n0_ n1_; (try (obtain ⟨hx23_0, hf23_0⟩ := Kd.R_celln 0 HO_5.out ((ji20) : Int) (of_eq_true p23) (of_eq_true q23))); (try (have HP25 := Kd.R_putg HO_5.out ((ji20) : Int) (((rd x5_2 (ji20)) + x7_2) % 4294967296))))); refine store_event (t := 83) (p := 69) (v := ?vo_w26) (w1 := (wr.setCell ⟨go23, ((ji20) : Int).toNat, none⟩ (.int .u32 (((rd x5_2 (ji20)) + x7_2) % 4294967296)))) ?hg ?ho ?hn ?hr ?_; (case ho => rfl); (case hg => rfl); (case hn => rfl); (case hr => first | (go_simp; done) | (go_simp; rfl)); intro w26 hw; have hg : wr.grownBy w26 (some go23) := (by rw [hw]; exact HP25.2); have hp_ : Kd.R (Kd.int .u32) 83 w26 w.heap.size (fun _ => True) (.slice (some ⟨go23, 0, none⟩) x5_2.length co24) y410 := (by rw [hw, Ny410.out]; exact HP25.1); clear HP25; have n0_ := Aside0.mk (hp_); have n1_ := Aside0.mk ((by rw [hw]; exact below_set (HB.out) GB23.out : Below w.heap.size w w26)); clear HO_5; clear HB; have HO_5 := n0_; have HB := n1_; clear n0_ n1_; clear hg hw hp_)); try go_wp2_with (first | ((with_reducible refine gate_store (t := 83) (p := 69) rfl ?_); (try (rw [drewN_self wr]; generalize hq_ : World.drewN wr _ = wr; have n0_ := Aside0.mk (Kd.R_at hq_ HO_5.out); have n1_ := Aside0.mk (below_at hq_ HB.out); clear hq_ HO_5 HB; have HO_5 := n0_; have HB := n1_; clear n0_ n1_; (try (obtain ⟨hx23_0, hf23_0⟩ := Kd.R_celln 0 HO_5.out ((ji20) : Int) (of_eq_true p23) (of_eq_true q23))); (try (have HP25 := Kd.R_putg HO_5.out ((ji20) : Int) (((rd x5_2 (ji20)) + x7_2) % 4294967296))))); refine store_event (t := 83) (p := 69) (v := ?vo_w26) (w1 := (wr.setCell ⟨go23, ((ji20) : Int).toNat, none⟩ (.int .u32 (((rd x5_2 (ji20)) + x7_2) % 4294967296)))) ?hg ?ho ?hn ?hr ?_; (case ho => rfl); (case hg => rfl); (case hn => rfl); (case hr => first | (go_simp; done) | (go_simp; rfl)); intro w26 hw; have hg : wr.grownBy w26 (some go23) := (by rw [hw]; exact HP25.2); have hp_ : Kd.R (Kd.int .u32) 83 w26 w.heap.size (fun _ => True) (.slice (some ⟨go23, 0, none⟩) x5_2.length co24) y410 := (by rw [hw, Ny410.out]; exact HP25.1); clear HP25; have n0_ := Aside0.mk (hp_); have n1_ := Aside0.mk ((by rw [hw]; exact below_set (HB.out) GB23.out : Below w.heap.size w w26)); clear HO_5; clear HB; have HO_5 := n0_; have HB := n1_; clear n0_ n1_; clear hg hw hp_)))
      go_roundg k2
      case measure => have := HK1.out; have := HK2.out; omega
      case rel => exact ⟨(y410), (wrap64 (x6_1 + 1)), sqE, H', ⟨by have := HK1.out; have := HK2.out; omega⟩, ⟨sqR HO_5.out⟩, ⟨sqB⟩⟩
   rw [if_neg c8] at H
   have c8b0 := decide_eq_false c8
   clear c8
   replace H := Option.bind_eq_some_iff.mp H
   obtain ⟨t402, A270, H⟩ := H
   try dsimp only at H
   have A27 := Aside0.mk A270
   clear A270
   obtain rfl := Option.some.inj H
   obtain ⟨Ao28, co28, eo28⟩ := Kd.R_slice HO_5.out
   subst eo28
   go_wp2_with (first | (go_at_call 89; (with_reducible refine (endonymref2_trim.calls k1 (fun k_ => some k_ = (.slice Ao28 x5_1.length co28 : Value).ownBlock) (.slice Ao28 x5_1.length co28) x5_1 t402 w _ ?side1 ?side2 A27.out).mono ?_); (case side1 => repeat (first | (with_reducible first | exact HB.out | apply below_alloc | apply pw_below_drewN | apply below_drew1) | exact HB.out)); (case side2 => exact Kd.R_tight rfl HO_5.out); rintro e w29 ⟨v403, rfl, ho0, hb, hkp⟩; have n0_ := Aside0.mk (Kd.R_mono (ok' := fun k_ => True) ho0 (fun k_ hk_ => trivial)); have n1_ := Aside0.mk (hb); clear HB; clear HO_5; have HO404 := n0_; have HB := n1_; clear n0_ n1_; (try clear hb); (try clear hkp); (try clear ho0)))
   repeat (go_quiet (first | (go_at_call 89; (with_reducible refine (endonymref2_trim.calls k1 (fun k_ => some k_ = (.slice Ao28 x5_1.length co28 : Value).ownBlock) (.slice Ao28 x5_1.length co28) x5_1 t402 w _ ?side1 ?side2 A27.out).mono ?_); (case side1 => repeat (first | (with_reducible first | exact HB.out | apply below_alloc | apply pw_below_drewN | apply below_drew1) | exact HB.out)); (case side2 => exact Kd.R_tight rfl HO_5.out); rintro e w29 ⟨v403, rfl, ho0, hb, hkp⟩; have n0_ := Aside0.mk (Kd.R_mono (ok' := fun k_ => True) ho0 (fun k_ hk_ => trivial)); have n1_ := Aside0.mk (hb); clear HB; clear HO_5; have HO404 := n0_; have HB := n1_; clear n0_ n1_; (try clear hb); (try clear hkp); (try clear ho0))); try go_wp2_with (first | (go_at_call 89; (with_reducible refine (endonymref2_trim.calls k1 (fun k_ => some k_ = (.slice Ao28 x5_1.length co28 : Value).ownBlock) (.slice Ao28 x5_1.length co28) x5_1 t402 w _ ?side1 ?side2 A27.out).mono ?_); (case side1 => repeat (first | (with_reducible first | exact HB.out | apply below_alloc | apply pw_below_drewN | apply below_drew1) | exact HB.out)); (case side2 => exact Kd.R_tight rfl HO_5.out); rintro e w29 ⟨v403, rfl, ho0, hb, hkp⟩; have n0_ := Aside0.mk (Kd.R_mono (ok' := fun k_ => True) ho0 (fun k_ hk_ => trivial)); have n1_ := Aside0.mk (hb); clear HB; clear HO_5; have HO404 := n0_; have HB := n1_; clear n0_ n1_; (try clear hb); (try clear hkp); (try clear ho0))))
   go_ret
   exact ⟨_, by first | rfl | (simp [errW_none, errW_some] <;> rfl) | (simp only [← hji3]; first | rfl | (simp [errW_none, errW_some] <;> rfl)) | (simp [*, errW_none, errW_some] <;> rfl), sqR HO404.out, sqB⟩

/-! ### endonymref2_Ten: function 64 -/
def endonymref2_Ten.l0 : Nat → Int → List Int → Int → Option (List Int)
 | 0, _, _, _ => none
 | k + 1, x0, x3, x4 => if x4 < x0 then ((endonymref2_Times.f k x3 10 0).bind fun t414 => (endonymref2_Ten.l0 k x0 t414 (wrap64 (x4 + 1)))) else (some x3)
def endonymref2_Ten.f (k : Nat) (a0 : Int) : Option (List Int) := (endonymref2_Of.f k 1).bind fun t411 => (endonymref2_Ten.l0 k a0 t411 0)
theorem endonymref2_Ten.mono_l : ∀ k, (∀ y0 y1 y2, LeO (endonymref2_Ten.l0 k y0 y1 y2) (endonymref2_Ten.l0 (k + 1) y0 y1 y2))
 | 0 => fun _ _ _ r h => by simp [endonymref2_Ten.l0] at h
 | k + 1 => by
  have ih0 := endonymref2_Ten.mono_l k
  intro y0 y1 y2
  unfold endonymref2_Ten.l0
  repeat' first | (with_reducible first | apply ih0 | apply endonymref2_Of.mono | apply endonymref2_Times.mono | apply LeO.refl | apply LeO.none | refine LeO.ite ?_ ?_ | refine LeO.bind ?_ (fun _ => ?_)) | apply ih0 | apply endonymref2_Of.mono | apply endonymref2_Times.mono | apply LeO.none | refine LeO.ite ?_ ?_ | refine LeO.bind ?_ (fun _ => ?_)
theorem endonymref2_Ten.mono : ∀ a0 k, LeO (endonymref2_Ten.f k a0) (endonymref2_Ten.f (k + 1) a0) := by
 intro a0 k
 have ih0 := endonymref2_Ten.mono_l k
 unfold endonymref2_Ten.f
 repeat' first | (with_reducible first | apply ih0 | apply endonymref2_Of.mono | apply endonymref2_Times.mono | apply LeO.refl | apply LeO.none | refine LeO.ite ?_ ?_ | refine LeO.bind ?_ (fun _ => ?_)) | apply ih0 | apply endonymref2_Of.mono | apply endonymref2_Times.mono | apply LeO.none | refine LeO.ite ?_ ?_ | refine LeO.bind ?_ (fun _ => ?_)
set_option maxHeartbeats 8000000 in
set_option maxRecDepth 100000 in
theorem endonymref2_Ten.calls (k : Nat) (a0 : Int) (r : List Int) (w : World) (h : endonymref2_Ten.f k a0 = some r) :
  Calls Tryz.prog 64 #[.int .i64 a0] w fun e w' => ∃ v0_ : Value, e = .returned (v0_) ∧ Kd.R (Kd.int .u32) 83 w' w.heap.size (fun _ => True) v0_ r ∧ Below w.heap.size w w' := by
 have HB := Aside0.mk (Below.refl w.heap.size w)
 have H : ((endonymref2_Of.f k 1).bind fun t411 => (endonymref2_Ten.l0 k a0 t411 0)) = some r := h
 clear h
 replace H := Option.bind_eq_some_iff.mp H
 obtain ⟨t411, A20, H⟩ := H
 try dsimp only at H
 have A2 := Aside0.mk A20
 clear A20
 have H' := Aside0.mk H
 clear H
 go_enter Tryz.func64, Tryz.ntmps64
 go_wp2_with (first | ((with_reducible refine gate_callee (f := 65) rfl ?_); refine goesL_ (some 5) rfl rfl Tryz.func65 (by kernel_rfl) rfl #[.int .u64 1] rfl sqA ?_; (with_reducible refine (endonymref2_Of.calls k 1 t411 _ A2.out).mono ?_); rintro e w3 ⟨v412, rfl, ho0, hb⟩; refine ⟨_, rfl, ?_⟩; have n0_ := Aside0.mk (Kd.R_lower ho0 (below_size sqB)); have n1_ := Aside0.mk (below_step sqB hb); clear HB; have HO413 := n0_; have HB := n1_; clear n0_ n1_; (try clear hb); (try clear hb2); (try clear hk); (try clear hi); (try clear ho0)))
 try simp only [Act.put, List.setIfInBounds_toArray, List.set_cons_zero, List.set_cons_succ]
 go_loopg [3, 4] k (fun kq v3 v4 w' => ∃ (x3_1 : List Int) (x4_1 : Int), v4 = .int .i64 x4_1 ∧ Aside0 (endonymref2_Ten.l0 kq a0 x3_1 x4_1 = some r) ∧ Aside0 (kq ≤ k) ∧ Aside0 (Kd.R (Kd.int .u32) 83 w' w.heap.size (fun _ => True) v3 x3_1) ∧ Aside0 (Below w.heap.size w w'))
 case atStart => exact ⟨(t411), (0), sqE, H', ⟨Nat.le_refl _⟩, ⟨sqR HO413.out⟩, ⟨sqB⟩⟩
 case round =>
  clear H'
  try clear p2
  obtain ⟨x3_1, x4_1, rfl, HA, HK1, HO_3, HB⟩ := hrel
  cases gk with
  | zero => exact absurd HA.out (by simp [endonymref2_Ten.l0])
  | succ k1 =>
   have H := HA.out
   clear HA
   simp only [endonymref2_Ten.l0] at H
   by_cases c4 : x4_1 < a0
   ·rw [if_pos c4] at H
    have c4b0 := decide_eq_true c4
    clear c4
    replace H := Option.bind_eq_some_iff.mp H
    obtain ⟨t414, A50, H⟩ := H
    try dsimp only at H
    have A5 := Aside0.mk A50
    clear A50
    have H' := Aside0.mk H
    clear H
    obtain ⟨Ao6, co6, eo6⟩ := Kd.R_slice HO_3.out
    subst eo6
    go_wp2_with (first | ((with_reducible refine gate_callee (f := 61) rfl ?_); refine goesL_ (some 12) rfl rfl Tryz.func61 (by kernel_rfl) rfl #[.slice Ao6 x3_1.length co6, .int .u32 10, .int .u32 0] rfl sqA ?_; (with_reducible refine (endonymref2_Times.calls k1 _ _ x3_1 10 0 t414 _ ?side1 ?side2 A5.out).mono ?_); (case side1 => repeat (first | exact (Kd.R_reads' HO_3.out).2.2 | (with_reducible refine Kd.C_alloc ?_ _) | (with_reducible refine Kd.C_drewN ?_ _) | (with_reducible refine Kd.C_drew ?_))); (case side2 => exact (Kd.R_reads' HO_3.out).2.1); rintro e w7 ⟨v415, rfl, ho0, hb⟩; refine ⟨_, rfl, ?_⟩; have n0_ := Aside0.mk (Kd.R_elder' (sqR HO_3.out) (Kd.R_base ho0) hb); have n1_ := Aside0.mk (Kd.R_lower (Kd.R_new' ho0 (Kd.R_lt (sqR HO_3.out))) (below_size sqB)); have n2_ := Aside0.mk (below_step sqB hb); clear HO_3; clear HB; have HO_3 := n0_; have HO416 := n1_; have HB := n2_; clear n0_ n1_ n2_; (try clear hb); (try clear hb2); (try clear hk); (try clear hi); (try clear ho0)))
    go_roundg k1
    case measure => have := HK1.out; omega
    case rel => exact ⟨(t414), (wrap64 (x4_1 + 1)), sqE, H', ⟨by have := HK1.out; omega⟩, ⟨by (with_reducible repeat (first | apply Kd.R_alloc | apply Kd.R_drewN | apply Kd.R_drew)); exact Kd.R_mono HO416.out (fun _ hk => trivial)⟩, ⟨sqB⟩⟩
   rw [if_neg c4] at H
   have c4b0 := decide_eq_false c4
   clear c4
   obtain rfl := Option.some.inj H
   go_wp2
   go_ret
   exact ⟨_, sqE', sqR HO_3.out, sqB⟩

end Go.Proofs.YtfmjdoofopamkaaGreatDoor.W
