import Derived.Test.YtfmjdoofopamkaaGreatDoorWx0
import Derived.Test.YtfmjdoofopamkaaGreatDoorWx14
import Derived.Test.YtfmjdoofopamkaaGreatDoorWx15
import Derived.Test.YtfmjdoofopamkaaGreatDoorWx16
import Derived.Test.YtfmjdoofopamkaaGreatDoorWx17
namespace Go.Proofs.YtfmjdoofopamkaaGreatDoor.W
open Go.RowKit Go.Proofs.YtfmjdoofopamkaaGreatDoorW.PrintWords Go.Proofs.YtfmjdoofopamkaaGreatDoorW.PrintLast Go.Proofs.YtfmjdoofopamkaaGreatDoorW.PrintMore
set_option maxHeartbeats 8000000
set_option maxRecDepth 100000
attribute [local go_sem] max2_int min2_int max_two min_two max_three min_three max_four min_four
set_option linter.unusedVariables false
set_option linter.unusedSimpArgs false
mutual
def endonymref2_pack.l0 : Nat → List Int → Int → Option (Int)
 | 0, _, _ => none
 | k + 1, x0, x1 => (endonymref2_Length.f k x0).bind fun t630 => (if t630 > 53 then ((endonymref2_half.f k x0).bind fun t631 => (endonymref2_pack.l0 k t631 (wrap64 (x1 + 1)))) else (if (x0.length : Int) = 0 then (some 0) else (endonymref2_pack.l1 k x0 x1)))
def endonymref2_pack.j2 : Nat → List Int → Int → Option (Int)
 | 0, _, _ => none
 | k + 1, x0, x1 => (endonymref2_Length.f k x0).bind fun t638 => (if t638 < 53 then ((endonymref2_value.f k x0).bind fun t639 => (some t639)) else ((endonymref2_value.f k x0).bind fun t640 => (some (Go.bits .or .u64 (IntKind.u64.wrap ((IntKind.u64.wrap (wrap64 (x1 + 1075))) * 4503599627370496)) (Go.bits .and .u64 t640 4503599627370495)))))
def endonymref2_pack.l1 : Nat → List Int → Int → Option (Int)
 | 0, _, _ => none
 | k + 1, x0, x1 => (endonymref2_Length.f k x0).bind fun t634 => (if t634 < 53 then (if x1 > (-1074) then ((endonymref2_Left.f k x0 1).bind fun t635 => (endonymref2_pack.l1 k t635 (wrap64 (x1 - 1)))) else (endonymref2_pack.j2 k x0 x1)) else (endonymref2_pack.j2 k x0 x1))
end
def endonymref2_pack.f (k : Nat) (l0 : List Int) (a1 : Int) : Option (Int) := endonymref2_pack.l0 k l0 a1
theorem endonymref2_pack.mono_l : ∀ k, (∀ y0 y1, LeO (endonymref2_pack.l0 k y0 y1) (endonymref2_pack.l0 (k + 1) y0 y1)) ∧ (∀ y0 y1, LeO (endonymref2_pack.j2 k y0 y1) (endonymref2_pack.j2 (k + 1) y0 y1)) ∧ (∀ y0 y1, LeO (endonymref2_pack.l1 k y0 y1) (endonymref2_pack.l1 (k + 1) y0 y1))
 | 0 => ⟨fun _ _ r h => by simp [endonymref2_pack.l0] at h, fun _ _ r h => by simp [endonymref2_pack.j2] at h, fun _ _ r h => by simp [endonymref2_pack.l1] at h⟩
 | k + 1 => by
  obtain ⟨ih0, ih1, ih2⟩ := endonymref2_pack.mono_l k
  refine ⟨?_, ?_, ?_⟩
  ·intro y0 y1
   unfold endonymref2_pack.l0
   repeat' first | (with_reducible first | apply ih0 | apply ih1 | apply ih2 | apply endonymref2_Left.mono | apply endonymref2_Length.mono | apply endonymref2_half.mono | apply endonymref2_value.mono | apply LeO.refl | apply LeO.none | refine LeO.ite ?_ ?_ | refine LeO.bind ?_ (fun _ => ?_)) | apply LeO.none | refine LeO.ite ?_ ?_ | refine LeO.bind ?_ (fun _ => ?_)
  ·intro y0 y1
   unfold endonymref2_pack.j2
   repeat' first | (with_reducible first | apply ih0 | apply ih1 | apply ih2 | apply endonymref2_Left.mono | apply endonymref2_Length.mono | apply endonymref2_half.mono | apply endonymref2_value.mono | apply LeO.refl | apply LeO.none | refine LeO.ite ?_ ?_ | refine LeO.bind ?_ (fun _ => ?_)) | apply LeO.none | refine LeO.ite ?_ ?_ | refine LeO.bind ?_ (fun _ => ?_)
  intro y0 y1
  unfold endonymref2_pack.l1
  repeat' first | (with_reducible first | apply ih0 | apply ih1 | apply ih2 | apply endonymref2_Left.mono | apply endonymref2_Length.mono | apply endonymref2_half.mono | apply endonymref2_value.mono | apply LeO.refl | apply LeO.none | refine LeO.ite ?_ ?_ | refine LeO.bind ?_ (fun _ => ?_)) | apply LeO.none | refine LeO.ite ?_ ?_ | refine LeO.bind ?_ (fun _ => ?_)
theorem endonymref2_pack.mono : ∀ a0 a1 k, LeO (endonymref2_pack.f k a0 a1) (endonymref2_pack.f (k + 1) a0 a1) := by
 intro a0 a1 k
 obtain ⟨ih0, ih1, ih2⟩ := endonymref2_pack.mono_l k
 unfold endonymref2_pack.f
 repeat' first | (with_reducible first | apply ih0 | apply ih1 | apply ih2 | apply endonymref2_Left.mono | apply endonymref2_Length.mono | apply endonymref2_half.mono | apply endonymref2_value.mono | apply LeO.refl | apply LeO.none | refine LeO.ite ?_ ?_ | refine LeO.bind ?_ (fun _ => ?_)) | apply LeO.none | refine LeO.ite ?_ ?_ | refine LeO.bind ?_ (fun _ => ?_)
theorem endonymref2_pack.calls (k : Nat) (P0_ : Nat → Prop) (A0 : Option Addr) (c0 : Nat) (l0 : List Int) (a1 : Int) (r : Int) (w : World) (hs0 : Kd.V (Kd.int .u32) 83 w w.heap.size (fun k_ => P0_ k_) (.slice A0 l0.length c0) l0) (h : endonymref2_pack.f k l0 a1 = some r) :
  Calls Tryz.prog 91 #[.slice A0 l0.length c0, .int .i64 a1] w fun e w' => e = .returned (.int .u64 r) ∧ Below w.heap.size w w' := by
 have HO0 := Aside0.mk (show Kd.V (Kd.int .u32) 83 w w.heap.size (fun k_ => (P0_ k_ ∨ w.heap.size ≤ k_)) (.slice A0 l0.length c0) l0 from Kd.V_mono hs0 (fun k_ hk => .inl hk))
 have HB := Aside0.mk (Below.refl w.heap.size w)
 have H : (endonymref2_pack.l0 k l0 a1) = some r := h
 clear h
 have H' := Aside0.mk H
 clear H
 go_enter Tryz.func91, Tryz.ntmps91
 go_wp2
 go_loopg [0, 1] k (fun kq v0 v1 w' => ∃ (x0_1 : List Int) (x1_1 : Int), v1 = .int .i64 x1_1 ∧ Aside0 (endonymref2_pack.l0 kq x0_1 x1_1 = some r) ∧ Aside0 (kq ≤ k) ∧ Aside0 (Kd.V (Kd.int .u32) 83 w' w.heap.size (fun k_ => (P0_ k_ ∨ w.heap.size ≤ k_)) v0 x0_1) ∧ Aside0 (Below w.heap.size w w'))
 case atStart => exact ⟨(l0), (a1), sqE, H', ⟨Nat.le_refl _⟩, ⟨sqV HO0.out⟩, ⟨sqB⟩⟩
 case round =>
  clear H'
  try clear p2
  obtain ⟨x0_1, x1_1, rfl, HA, HK1, HO_0, HB⟩ := hrel
  cases gk with
  | zero => exact absurd HA.out (by simp [endonymref2_pack.l0])
  | succ k1 =>
   have H := HA.out
   clear HA
   simp only [endonymref2_pack.l0] at H
   obtain ⟨t630, A3, H⟩ := sqO H
   try dsimp only at H
   by_cases c4 : t630 > 53
   ·rw [if_pos c4] at H
    have c4b0 := decide_eq_true c4
    clear c4
    obtain ⟨t631, A5, H⟩ := sqO H
    try dsimp only at H
    have H' := Aside0.mk H
    clear H
    obtain ⟨Ao6, co6, eo6⟩ := Kd.V_slice HO_0.out
    subst eo6
    go_wp2_with (first | ((with_reducible refine gate_callee (f := 75) rfl ?_); refine goesL_ (some 6) rfl rfl Tryz.func75 (by kernel_rfl) rfl #[.slice Ao6 x0_1.length co6] rfl sqA ?_; (with_reducible refine (endonymref2_Length.calls k1 _ _ x0_1 t630 _ ?side1 ?side2 A3.out).mono ?_); (case side1 => repeat (first | exact (Kd.V_reads' HO_0.out).2.2 | (with_reducible refine Kd.C_alloc ?_ _) | (with_reducible refine Kd.C_drewN ?_ _) | (with_reducible refine Kd.C_drew ?_))); (case side2 => exact (Kd.V_reads' HO_0.out).2.1); rintro e w' ⟨rfl, ⟨nd, rfl⟩⟩; refine ⟨_, rfl, ?_⟩) | ((with_reducible refine gate_callee (f := 100) rfl ?_); refine goesL_ (some 9) rfl rfl Tryz.func100 (by kernel_rfl) rfl #[.slice Ao6 x0_1.length co6] rfl sqA ?_; (with_reducible refine (endonymref2_half.calls k1 _ _ x0_1 t631 _ ?side1 ?side2 A5.out).mono ?_); (case side1 => repeat (first | exact (Kd.V_reads' HO_0.out).2.2 | (with_reducible refine Kd.C_alloc ?_ _) | (with_reducible refine Kd.C_drewN ?_ _) | (with_reducible refine Kd.C_drew ?_))); (case side2 => exact (Kd.V_reads' HO_0.out).2.1); rintro e w7 ⟨v632, rfl, ho0, hb⟩; refine ⟨_, rfl, ?_⟩; have n0_ := Aside0.mk (Kd.V_elder' (sqV HO_0.out) (Kd.R_base ho0) hb); have n1_ := Aside0.mk (Kd.R_lower (Kd.R_newM (M := fun k_ => (w.heap.size ≤ k_)) ho0 (below_size sqB) (fun k_ h_ => h_)) (below_size sqB)); have n2_ := Aside0.mk (below_step sqB hb); clear HO_0; clear HB; have HO_0 := n0_; have HO633 := n1_; have HB := n2_; clear n0_ n1_ n2_; (try clear hb); (try clear hb2); (try clear hk); (try clear hi); (try clear ho0)))
    go_roundg k1
    case measure => have := HK1.out; omega
    case rel => exact ⟨(t631), (wrap64 (x1_1 + 1)), sqE, H', ⟨by have := HK1.out; omega⟩, ⟨Kd.V_mono (Kd.R_V (by (with_reducible repeat (first | apply Kd.R_alloc | apply Kd.R_drewN | apply Kd.R_drew)); exact Kd.R_mono HO633.out (fun _ hk => hk.1))) (fun k_ hk => by first | exact ⟨(.inr (hk.1)), hk.2⟩ | exact (.inr (hk)))⟩, ⟨sqB⟩⟩
   rw [if_neg c4] at H
   have c4b0 := decide_eq_false c4
   clear c4
   by_cases c8 : (x0_1.length : Int) = 0
   ·rw [if_pos c8] at H
    have c8b0 := beq_iff_eq.mpr c8
    have c8b1 := bne_eq_false_iff_eq.mpr c8
    clear c8
    obtain rfl := Option.some.inj H
    obtain ⟨Ao9, co9, eo9⟩ := Kd.V_slice HO_0.out
    subst eo9
    go_wp2_with (first | ((with_reducible refine gate_callee (f := 75) rfl ?_); refine goesL_ (some 6) rfl rfl Tryz.func75 (by kernel_rfl) rfl #[.slice Ao9 x0_1.length co9] rfl sqA ?_; (with_reducible refine (endonymref2_Length.calls k1 _ _ x0_1 t630 _ ?side1 ?side2 A3.out).mono ?_); (case side1 => repeat (first | exact (Kd.V_reads' HO_0.out).2.2 | (with_reducible refine Kd.C_alloc ?_ _) | (with_reducible refine Kd.C_drewN ?_ _) | (with_reducible refine Kd.C_drew ?_))); (case side2 => exact (Kd.V_reads' HO_0.out).2.1); rintro e w' ⟨rfl, ⟨nd, rfl⟩⟩; refine ⟨_, rfl, ?_⟩))
    go_ret
    exact ⟨sqE', sqB⟩
   rw [if_neg c8] at H
   have c8b0 := beq_eq_false_iff_ne.mpr c8
   have c8b1 := bne_iff_ne.mpr c8
   have c8b2 : ¬ (x0_1 = []) := fun h_ => c8 (by rw [h_]; rfl)
   have HC10 := Aside0.mk H
   clear H
   obtain ⟨Ao11, co11, eo11⟩ := Kd.V_slice HO_0.out
   subst eo11
   go_upto_block 2 with (first | ((with_reducible refine gate_callee (f := 75) rfl ?_); refine goesL_ (some 6) rfl rfl Tryz.func75 (by kernel_rfl) rfl #[.slice Ao11 x0_1.length co11] rfl sqA ?_; (with_reducible refine (endonymref2_Length.calls k1 _ _ x0_1 t630 _ ?side1 ?side2 A3.out).mono ?_); (case side1 => repeat (first | exact (Kd.V_reads' HO_0.out).2.2 | (with_reducible refine Kd.C_alloc ?_ _) | (with_reducible refine Kd.C_drewN ?_ _) | (with_reducible refine Kd.C_drew ?_))); (case side2 => exact (Kd.V_reads' HO_0.out).2.1); rintro e w' ⟨rfl, ⟨nd, rfl⟩⟩; refine ⟨_, rfl, ?_⟩))
   (try simp only [Act.put, List.setIfInBounds_toArray, List.set_cons_zero, List.set_cons_succ])
   go_cut [0, 1] (fun v0 v1 wc => ∃ (kq : Nat) (x0_9 : List Int) (x1_9 : Int), v1 = .int .i64 x1_9 ∧ Aside0 (endonymref2_pack.j2 kq x0_9 x1_9 = some r) ∧ Aside0 (kq ≤ k1) ∧ Aside0 (Kd.V (Kd.int .u32) 83 wc w.heap.size (fun k_ => (P0_ k_ ∨ w.heap.size ≤ k_)) v0 x0_9) ∧ Aside0 (Below w.heap.size w wc))
   case first =>
    have H := HC10.out
    clear HC10
    have H' := Aside0.mk H
    clear H
    go_wp2
    go_loopg [0, 1] k1 (fun kq v0 v1 w' => ∃ (x0_2 : List Int) (x1_2 : Int), v1 = .int .i64 x1_2 ∧ Aside0 (endonymref2_pack.l1 kq x0_2 x1_2 = some r) ∧ Aside0 (kq ≤ k1) ∧ Aside0 (Kd.V (Kd.int .u32) 83 w' w.heap.size (fun k_ => (P0_ k_ ∨ w.heap.size ≤ k_)) v0 x0_2) ∧ Aside0 (Below w.heap.size w w'))
    case atStart => exact ⟨(x0_1), (x1_1), sqE, H', ⟨Nat.le_refl _⟩, ⟨sqV HO_0.out⟩, ⟨sqB⟩⟩
    case round =>
     clear H'
     try clear c1
     try clear p2
     try clear c4
     try clear c4b0
     try clear p6
     try clear c7
     try clear c8
     try clear c8b0
     try clear c8b1
     try clear c8b2
     try clear c9
     try clear c10
     try clear p2
     obtain ⟨x0_2, x1_2, rfl, HA, HK2, HO_0, HB⟩ := hrel
     cases gk with
     | zero => exact absurd HA.out (by simp [endonymref2_pack.l1])
     | succ k2 =>
      have H := HA.out
      clear HA
      simp only [endonymref2_pack.l1] at H
      obtain ⟨t634, A12, H⟩ := sqO H
      try dsimp only at H
      by_cases c13 : t634 < 53
      case neg =>
       rw [if_neg c13] at H
       have c13b0 := decide_eq_false c13
       clear c13
       (first | rw [c13b0] | (simp only [i64_w, i32_w]; rw [c13b0]) | skip)
       have H' := Aside0.mk H
       clear H
       obtain ⟨Ao19, co19, eo19⟩ := Kd.V_slice HO_0.out
       subst eo19
       go_wp2_with (first | ((with_reducible refine gate_callee (f := 75) rfl ?_); refine goesL_ (some 16) rfl rfl Tryz.func75 (by kernel_rfl) rfl #[.slice Ao19 x0_2.length co19] rfl sqA ?_; (with_reducible refine (endonymref2_Length.calls k2 _ _ x0_2 t634 _ ?side1 ?side2 A12.out).mono ?_); (case side1 => repeat (first | exact (Kd.V_reads' HO_0.out).2.2 | (with_reducible refine Kd.C_alloc ?_ _) | (with_reducible refine Kd.C_drewN ?_ _) | (with_reducible refine Kd.C_drew ?_))); (case side2 => exact (Kd.V_reads' HO_0.out).2.1); rintro e w' ⟨rfl, ⟨nd, rfl⟩⟩; refine ⟨_, rfl, ?_⟩))
       go_meet
       case rel => exact ⟨_, (x0_2), (x1_2), sqE, H', ⟨by have := HK1.out; have := HK2.out; first | omega | exact Nat.le_refl _⟩, ⟨sqV HO_0.out⟩, ⟨sqB⟩⟩
      rw [if_pos c13] at H
      have c13b0 := decide_eq_true c13
      clear c13
      (first | rw [c13b0] | (simp only [i64_w, i32_w]; rw [c13b0]) | skip)
      by_cases c14 : x1_2 > (-1074)
      case neg =>
       rw [if_neg c14] at H
       have c14b0 := decide_eq_false c14
       clear c14
       have H' := Aside0.mk H
       clear H
       obtain ⟨Ao18, co18, eo18⟩ := Kd.V_slice HO_0.out
       subst eo18
       go_wp2_with (first | ((with_reducible refine gate_callee (f := 75) rfl ?_); refine goesL_ (some 16) rfl rfl Tryz.func75 (by kernel_rfl) rfl #[.slice Ao18 x0_2.length co18] rfl sqA ?_; (with_reducible refine (endonymref2_Length.calls k2 _ _ x0_2 t634 _ ?side1 ?side2 A12.out).mono ?_); (case side1 => repeat (first | exact (Kd.V_reads' HO_0.out).2.2 | (with_reducible refine Kd.C_alloc ?_ _) | (with_reducible refine Kd.C_drewN ?_ _) | (with_reducible refine Kd.C_drew ?_))); (case side2 => exact (Kd.V_reads' HO_0.out).2.1); rintro e w' ⟨rfl, ⟨nd, rfl⟩⟩; refine ⟨_, rfl, ?_⟩))
       go_meet
       case rel => exact ⟨_, (x0_2), (x1_2), sqE, H', ⟨by have := HK1.out; have := HK2.out; first | omega | exact Nat.le_refl _⟩, ⟨sqV HO_0.out⟩, ⟨sqB⟩⟩
      rw [if_pos c14] at H
      have c14b0 := decide_eq_true c14
      clear c14
      obtain ⟨t635, A15, H⟩ := sqO H
      try dsimp only at H
      have H' := Aside0.mk H
      clear H
      obtain ⟨Ao16, co16, eo16⟩ := Kd.V_slice HO_0.out
      subst eo16
      go_wp2_with (first | ((with_reducible refine gate_callee (f := 75) rfl ?_); refine goesL_ (some 16) rfl rfl Tryz.func75 (by kernel_rfl) rfl #[.slice Ao16 x0_2.length co16] rfl sqA ?_; (with_reducible refine (endonymref2_Length.calls k2 _ _ x0_2 t634 _ ?side1 ?side2 A12.out).mono ?_); (case side1 => repeat (first | exact (Kd.V_reads' HO_0.out).2.2 | (with_reducible refine Kd.C_alloc ?_ _) | (with_reducible refine Kd.C_drewN ?_ _) | (with_reducible refine Kd.C_drew ?_))); (case side2 => exact (Kd.V_reads' HO_0.out).2.1); rintro e w' ⟨rfl, ⟨nd, rfl⟩⟩; refine ⟨_, rfl, ?_⟩) | ((with_reducible refine gate_callee (f := 74) rfl ?_); refine goesL_ (some 23) rfl rfl Tryz.func74 (by kernel_rfl) rfl #[.slice Ao16 x0_2.length co16, .int .i64 1] rfl sqA ?_; (with_reducible refine (endonymref2_Left.calls k2 _ _ x0_2 1 t635 _ ?side1 ?side2 A15.out).mono ?_); (case side1 => repeat (first | exact (Kd.V_reads' HO_0.out).2.2 | (with_reducible refine Kd.C_alloc ?_ _) | (with_reducible refine Kd.C_drewN ?_ _) | (with_reducible refine Kd.C_drew ?_))); (case side2 => exact (Kd.V_reads' HO_0.out).2.1); rintro e w17 ⟨v636, rfl, ho0, hb⟩; refine ⟨_, rfl, ?_⟩; have n0_ := Aside0.mk (Kd.V_elder' (sqV HO_0.out) (Kd.R_base ho0) hb); have n1_ := Aside0.mk (Kd.R_lower (Kd.R_newM (M := fun k_ => (w.heap.size ≤ k_)) ho0 (below_size sqB) (fun k_ h_ => h_)) (below_size sqB)); have n2_ := Aside0.mk (below_step sqB hb); clear HO_0; clear HB; have HO_0 := n0_; have HO637 := n1_; have HB := n2_; clear n0_ n1_ n2_; (try clear hb); (try clear hb2); (try clear hk); (try clear hi); (try clear ho0)))
      go_roundg k2
      case measure => have := HK1.out; have := HK2.out; omega
      case rel => exact ⟨(t635), (wrap64 (x1_2 - 1)), sqE, H', ⟨by have := HK1.out; have := HK2.out; omega⟩, ⟨Kd.V_mono (Kd.R_V (by (with_reducible repeat (first | apply Kd.R_alloc | apply Kd.R_drewN | apply Kd.R_drew)); exact Kd.R_mono HO637.out (fun _ hk => hk.1))) (fun k_ hk => by first | exact ⟨(.inr (hk.1)), hk.2⟩ | exact (.inr (hk)))⟩, ⟨sqB⟩⟩
   case rest =>
    clear HC10
    try clear c1
    try clear p2
    try clear c4
    try clear c4b0
    try clear p6
    try clear c7
    try clear c8
    try clear c8b0
    try clear c8b1
    try clear c8b2
    try clear c9
    try clear c10
    try clear c13
    try clear c13b0
    try clear c14
    try clear c14b0
    try clear p2
    try clear p6
    obtain ⟨kq, x0_9, x1_9, rfl, HA, HJ9, HO_0, HB⟩ := hcut
    cases kq with
    | zero => exact absurd HA.out (by simp [endonymref2_pack.j2])
    | succ kj9 =>
     have H := HA.out
     clear HA
     simp only [endonymref2_pack.j2] at H
     obtain ⟨t638, A20, H⟩ := sqO H
     try dsimp only at H
     by_cases c21 : t638 < 53
     ·rw [if_pos c21] at H
      have c21b0 := decide_eq_true c21
      clear c21
      obtain ⟨t639, A22, H⟩ := sqO H
      try dsimp only at H
      obtain rfl := Option.some.inj H
      obtain ⟨Ao23, co23, eo23⟩ := Kd.V_slice HO_0.out
      subst eo23
      go_wp2_with (first | ((with_reducible refine gate_callee (f := 75) rfl ?_); refine goesL_ (some 27) rfl rfl Tryz.func75 (by kernel_rfl) rfl #[.slice Ao23 x0_9.length co23] rfl sqA ?_; (with_reducible refine (endonymref2_Length.calls kj9 _ _ x0_9 t638 _ ?side1 ?side2 A20.out).mono ?_); (case side1 => repeat (first | exact (Kd.V_reads' HO_0.out).2.2 | (with_reducible refine Kd.C_alloc ?_ _) | (with_reducible refine Kd.C_drewN ?_ _) | (with_reducible refine Kd.C_drew ?_))); (case side2 => exact (Kd.V_reads' HO_0.out).2.1); rintro e w' ⟨rfl, ⟨nd, rfl⟩⟩; refine ⟨_, rfl, ?_⟩) | ((with_reducible refine gate_callee (f := 78) rfl ?_); refine goesL_ (some 30) rfl rfl Tryz.func78 (by kernel_rfl) rfl #[.slice Ao23 x0_9.length co23] rfl sqA ?_; (with_reducible refine (endonymref2_value.calls kj9 _ _ x0_9 t639 _ ?side1 ?side2 A22.out).mono ?_); (case side1 => repeat (first | exact (Kd.V_reads' HO_0.out).2.2 | (with_reducible refine Kd.C_alloc ?_ _) | (with_reducible refine Kd.C_drewN ?_ _) | (with_reducible refine Kd.C_drew ?_))); (case side2 => exact (Kd.V_reads' HO_0.out).2.1); rintro e w' ⟨rfl, ⟨nd, rfl⟩⟩; refine ⟨_, rfl, ?_⟩))
      go_ret
      exact ⟨sqE', sqB⟩
     rw [if_neg c21] at H
     have c21b0 := decide_eq_false c21
     clear c21
     obtain ⟨t640, A24, H⟩ := sqO H
     try dsimp only at H
     obtain rfl := Option.some.inj H
     obtain ⟨Ao25, co25, eo25⟩ := Kd.V_slice HO_0.out
     subst eo25
     go_wp2_with (first | ((with_reducible refine gate_callee (f := 75) rfl ?_); refine goesL_ (some 27) rfl rfl Tryz.func75 (by kernel_rfl) rfl #[.slice Ao25 x0_9.length co25] rfl sqA ?_; (with_reducible refine (endonymref2_Length.calls kj9 _ _ x0_9 t638 _ ?side1 ?side2 A20.out).mono ?_); (case side1 => repeat (first | exact (Kd.V_reads' HO_0.out).2.2 | (with_reducible refine Kd.C_alloc ?_ _) | (with_reducible refine Kd.C_drewN ?_ _) | (with_reducible refine Kd.C_drew ?_))); (case side2 => exact (Kd.V_reads' HO_0.out).2.1); rintro e w' ⟨rfl, ⟨nd, rfl⟩⟩; refine ⟨_, rfl, ?_⟩) | ((with_reducible refine gate_callee (f := 78) rfl ?_); refine goesL_ (some 36) rfl rfl Tryz.func78 (by kernel_rfl) rfl #[.slice Ao25 x0_9.length co25] rfl sqA ?_; (with_reducible refine (endonymref2_value.calls kj9 _ _ x0_9 t640 _ ?side1 ?side2 A24.out).mono ?_); (case side1 => repeat (first | exact (Kd.V_reads' HO_0.out).2.2 | (with_reducible refine Kd.C_alloc ?_ _) | (with_reducible refine Kd.C_drewN ?_ _) | (with_reducible refine Kd.C_drew ?_))); (case side2 => exact (Kd.V_reads' HO_0.out).2.1); rintro e w' ⟨rfl, ⟨nd, rfl⟩⟩; refine ⟨_, rfl, ?_⟩))
     go_ret
     exact ⟨sqE', sqB⟩
def endonymref2_Near.f (k : Nat) (l0 : List Int) (l1 : List Int) : Option (Int × Bool) := (endonymref2_Round.f k l0 l1 52 (-1074) 1024).bind fun bt641 => (if bt641.2.2 = true then ((endonymref2_pack.f k bt641.1 bt641.2.1).bind fun t646 => (some (t646, true))) else (some (0, false)))
theorem endonymref2_Near.mono : ∀ a0 a1 k, LeO (endonymref2_Near.f k a0 a1) (endonymref2_Near.f (k + 1) a0 a1) := by
 intro a0 a1 k
 unfold endonymref2_Near.f
 repeat' first | (with_reducible first | apply endonymref2_Round.mono | apply endonymref2_pack.mono | apply LeO.refl | apply LeO.none | refine LeO.ite ?_ ?_ | refine LeO.bind ?_ (fun _ => ?_)) | apply LeO.none | refine LeO.ite ?_ ?_ | refine LeO.bind ?_ (fun _ => ?_)
theorem endonymref2_Near.calls (k : Nat) (A0 : Option Addr) (c0 : Nat) (l0 : List Int) (A1 : Option Addr) (c1 : Nat) (l1 : List Int) (r1 : Int) (r2 : Bool) (w : World) (hr0 : Kd.C (Kd.int .u32) w A0 l0.length l0) (hc0 : l0.length ≤ c0) (hr1 : Kd.C (Kd.int .u32) w A1 l1.length l1) (hc1 : l1.length ≤ c1) (h : endonymref2_Near.f k l0 l1 = some (r1, r2)) :
  Calls Tryz.prog 62 #[.slice A0 l0.length c0, .slice A1 l1.length c1] w fun e w' => e = .returned (.tuple #[.int .u64 r1, .bool r2]) ∧ Below w.heap.size w w' := by
 have HR0 := Aside0.mk hr0
 have HC0 := Aside0.mk hc0
 clear hr0 hc0
 have HR1 := Aside0.mk hr1
 have HC1 := Aside0.mk hc1
 clear hr1 hc1
 have HB := Aside0.mk (Below.refl w.heap.size w)
 have H : ((endonymref2_Round.f k l0 l1 52 (-1074) 1024).bind fun bt641 => (if bt641.2.2 = true then ((endonymref2_pack.f k bt641.1 bt641.2.1).bind fun t646 => (some (t646, true))) else (some (0, false)))) = some (r1, r2) := h
 clear h
 obtain ⟨⟨t641, t644, t645⟩, A3, H⟩ := sqO H
 try dsimp only at H
 by_cases c4 : t645 = true
 ·subst c4
  have H1 : ((endonymref2_pack.f k t641 t644).bind fun t646 => (some (t646, true))) = some (r1, r2) := by rw [if_pos rfl] at H; exact H
  clear H
  have H := H1
  clear H1
  obtain ⟨t646, A5, H⟩ := sqO H
  try dsimp only at H
  simp only [Option.some.injEq, Prod.mk.injEq] at H
  obtain ⟨rfl, rfl⟩ := H
  go_enter Tryz.func62, Tryz.ntmps62
  go_wp2_with (first | ((with_reducible refine gate_callee (f := 90) rfl ?_); refine goesL_ (some 12) rfl rfl Tryz.func90 (by kernel_rfl) rfl #[.slice A0 l0.length c0, .slice A1 l1.length c1, .int .i64 52, .int .i64 (-1074), .int .i64 1024] rfl sqA ?_; (with_reducible refine (endonymref2_Round.calls k (fun k_ => k_ < w.heap.size) _ _ l0 (fun k_ => k_ < w.heap.size) _ _ l1 52 (-1074) 1024 t641 t644 true _ ?side1 ?side2 A3.out).mono ?_); (case side1 => exact Kd.V_mk HC0.out (Kd.F_below (Kd.C_F (Kd.heap_int .u32) HR0.out) sqB)); (case side2 => exact Kd.V_mk HC1.out (Kd.F_below (Kd.C_F (Kd.heap_int .u32) HR1.out) sqB)); rintro e w6 ⟨v642, rfl, ho0, hb⟩; refine ⟨_, rfl, ?_⟩; have n0_ := Aside0.mk (Kd.R_lower (Kd.R_mono (ok' := fun k_ => True) ho0 (fun _ hk_ => trivial)) (below_size sqB)); have n1_ := Aside0.mk (below_step sqB hb); clear HB; have HO643 := n0_; have HB := n1_; clear n0_ n1_; (try clear hb); (try clear hb2); (try clear hk); (try clear hi); (try clear ho0); obtain ⟨Ao7, co7, eo7⟩ := Kd.R_slice HO643.out; subst eo7) | ((with_reducible refine gate_callee (f := 91) rfl ?_); refine goesL_ (some 20) rfl rfl Tryz.func91 (by kernel_rfl) rfl #[.slice Ao7 t641.length co7, .int .i64 t644] rfl sqA ?_; (with_reducible refine (endonymref2_pack.calls k (fun k_ => some k_ = (.slice Ao7 t641.length co7 : Value).ownBlock) _ _ t641 t644 t646 _ ?side1 A5.out).mono ?_); (case side1 => exact Kd.R_V (Kd.R_tight rfl (HO643.out))); rintro e w8 ⟨rfl, hb⟩; refine ⟨_, rfl, ?_⟩; have n0_ := Aside0.mk (Kd.R_below (sqR HO643.out) hb); have n1_ := Aside0.mk (below_step sqB hb); clear HO643; clear HB; have HO643 := n0_; have HB := n1_; clear n0_ n1_; (try clear hb); (try clear hb2); (try clear hk); (try clear hi)))
  go_ret2
  exact ⟨sqE', sqB⟩
 replace c4 := Bool.eq_false_iff.mpr c4
 subst c4
 have H1 : (some (0, false)) = some (r1, r2) := by rw [if_neg (show ¬ (false = true) by decide)] at H; exact H
 clear H
 have H := H1
 clear H1
 simp only [Option.some.injEq, Prod.mk.injEq] at H
 obtain ⟨rfl, rfl⟩ := H
 go_enter Tryz.func62, Tryz.ntmps62
 go_wp2_with (first | ((with_reducible refine gate_callee (f := 90) rfl ?_); refine goesL_ (some 12) rfl rfl Tryz.func90 (by kernel_rfl) rfl #[.slice A0 l0.length c0, .slice A1 l1.length c1, .int .i64 52, .int .i64 (-1074), .int .i64 1024] rfl sqA ?_; (with_reducible refine (endonymref2_Round.calls k (fun k_ => k_ < w.heap.size) _ _ l0 (fun k_ => k_ < w.heap.size) _ _ l1 52 (-1074) 1024 t641 t644 false _ ?side1 ?side2 A3.out).mono ?_); (case side1 => exact Kd.V_mk HC0.out (Kd.F_below (Kd.C_F (Kd.heap_int .u32) HR0.out) sqB)); (case side2 => exact Kd.V_mk HC1.out (Kd.F_below (Kd.C_F (Kd.heap_int .u32) HR1.out) sqB)); rintro e w9 ⟨v642, rfl, ho0, hb⟩; refine ⟨_, rfl, ?_⟩; have n0_ := Aside0.mk (Kd.R_lower (Kd.R_mono (ok' := fun k_ => True) ho0 (fun _ hk_ => trivial)) (below_size sqB)); have n1_ := Aside0.mk (below_step sqB hb); clear HB; have HO643 := n0_; have HB := n1_; clear n0_ n1_; (try clear hb); (try clear hb2); (try clear hk); (try clear hi); (try clear ho0)))
 go_ret2
 exact ⟨sqE', sqB⟩
end Go.Proofs.YtfmjdoofopamkaaGreatDoor.W
