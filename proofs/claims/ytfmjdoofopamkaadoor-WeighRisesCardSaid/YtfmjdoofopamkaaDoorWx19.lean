-- written by wip/pp.py of this session (the kit's print with patches); checked by Lean alone
import Derived.Test.YtfmjdoofopamkaaDoorWx0
import Derived.Test.YtfmjdoofopamkaaDoorWx17
import Derived.Test.YtfmjdoofopamkaaDoorWx18
namespace Go.Proofs.YtfmjdoofopamkaaDoor.W
open Go.RowKit Go.Proofs.YtfmjdoofopamkaaDoorW.PrintWords Go.Proofs.YtfmjdoofopamkaaDoorW.PrintLast Go.Proofs.YtfmjdoofopamkaaDoorW.PrintMore
attribute [local go_sem] max2_int min2_int max_two min_two max_three min_three max_four min_four   -- for this text's walks alone
set_option linter.unusedVariables false
set_option linter.unusedSimpArgs false

/-! ### endonymlaw2_scaled: function 50 -/
def endonymlaw2_scaled.l0 : Nat → ByteArray → Int → List Int → Int → Option (List Int)
 | 0, _, _, _, _ => none
 | k + 1, x0, x1, x5, x6 => if x6 < (x0.size : Int) then (if 0 ≤ x6 then ((endonymref2_Times.f k x5 10 (((bt x0 x6) - 48) % 256)).bind fun t561 => (endonymlaw2_scaled.l0 k x0 x1 t561 (wrap64 (x6 + 1)))) else (none)) else (if (x5.length : Int) = 0 then (some ([] : List Int)) else ((endonymref2_Ten.f k x1).bind fun t564 => ((endonymref2_Product.f k x5 t564).bind fun t567 => (some t567))))
def endonymlaw2_scaled.f (k : Nat) (a0 : ByteArray) (a1 : Int) : Option (List Int) := endonymlaw2_scaled.l0 k a0 a1 ([] : List Int) 0
theorem endonymlaw2_scaled.mono_l : ∀ k, (∀ y0 y1 y2 y3, LeO (endonymlaw2_scaled.l0 k y0 y1 y2 y3) (endonymlaw2_scaled.l0 (k + 1) y0 y1 y2 y3))
 | 0 => fun _ _ _ _ r h => by simp [endonymlaw2_scaled.l0] at h
 | k + 1 => by
  have ih0 := endonymlaw2_scaled.mono_l k
  ·
   intro y0 y1 y2 y3
   unfold endonymlaw2_scaled.l0
   repeat' first | (with_reducible first | apply ih0 | apply endonymref2_Product.mono | apply endonymref2_Ten.mono | apply endonymref2_Times.mono | apply LeO.refl | apply LeO.none | refine LeO.ite ?_ ?_ | refine LeO.bind ?_ (fun _ => ?_)) | apply ih0 | apply endonymref2_Product.mono | apply endonymref2_Ten.mono | apply endonymref2_Times.mono | apply LeO.none | refine LeO.ite ?_ ?_ | refine LeO.bind ?_ (fun _ => ?_)
theorem endonymlaw2_scaled.mono : ∀ a0 a1 k, LeO (endonymlaw2_scaled.f k a0 a1) (endonymlaw2_scaled.f (k + 1) a0 a1) := by
 intro a0 a1 k
 have ih0 := endonymlaw2_scaled.mono_l k
 unfold endonymlaw2_scaled.f
 repeat' first | (with_reducible first | apply ih0 | apply endonymref2_Product.mono | apply endonymref2_Ten.mono | apply endonymref2_Times.mono | apply LeO.refl | apply LeO.none | refine LeO.ite ?_ ?_ | refine LeO.bind ?_ (fun _ => ?_)) | apply ih0 | apply endonymref2_Product.mono | apply endonymref2_Ten.mono | apply endonymref2_Times.mono | apply LeO.none | refine LeO.ite ?_ ?_ | refine LeO.bind ?_ (fun _ => ?_)
set_option maxHeartbeats 8000000 in
set_option maxRecDepth 100000 in
theorem endonymlaw2_scaled.calls (k : Nat) (a0 : ByteArray) (a1 : Int) (r : List Int) (w : World) (h : endonymlaw2_scaled.f k a0 a1 = some r) :
  Calls Tryd.prog 50 #[.string a0, .int .i64 a1] w fun e w' => ∃ v0_ : Value, e = .returned (v0_) ∧ Kd.R (Kd.int .u32) 84 w' w.heap.size (fun _ => True) v0_ r ∧ Below w.heap.size w w' := by
 have HB := Aside0.mk (Below.refl w.heap.size w)
 have H : (endonymlaw2_scaled.l0 k a0 a1 ([] : List Int) 0) = some r := h
 clear h
 have H' := Aside0.mk H
 clear H
 go_enter Tryd.func50, Tryd.ntmps50
 go_wp2
 go_loopg [5, 6] k (fun kq v5 v6 w' => ∃ (x5_1 : List Int) (x6_1 : Int), v6 = .int .i64 x6_1 ∧ Aside0 (endonymlaw2_scaled.l0 kq a0 a1 x5_1 x6_1 = some r) ∧ Aside0 (kq ≤ k) ∧ Aside0 (Kd.R (Kd.int .u32) 84 w' w.heap.size (fun _ => True) v5 x5_1) ∧ Aside0 (Below w.heap.size w w'))
 case atStart => exact ⟨(([] : List Int)), (0), sqE, H', ⟨Nat.le_refl _⟩, ⟨by first | exact Kd.R_nil _ _ _ _ _ | exact Kd.N_nil _ _ _ _ _ | exact Kd.V_nil _ _ _ _ _ | exact Kd.Q_nil _ _ _ _ _ | exact Kd.S_nil _ _ _ _ _⟩, ⟨sqB⟩⟩
 case round =>
  clear H'
  try clear p2
  obtain ⟨x5_1, x6_1, rfl, HA, HK1, HO_5, HB⟩ := hrel
  cases gk with
  | zero => exact absurd HA.out (by simp [endonymlaw2_scaled.l0])
  | succ k1 =>
   have H := HA.out
   clear HA
   simp only [endonymlaw2_scaled.l0] at H
   by_cases c3 : x6_1 < (a0.size : Int)
   ·
    rw [if_pos c3] at H
    have c3b0 := decide_eq_true c3
    clear c3
    by_cases c4 : 0 ≤ x6_1
    ·
     rw [if_pos c4] at H
     have c4b0 := decide_eq_true c4
     clear c4
     replace H := Option.bind_eq_some_iff.mp H
     obtain ⟨t561, A60, H⟩ := H
     try dsimp only at H
     have A6 := Aside0.mk A60
     clear A60
     have H' := Aside0.mk H
     clear H
     have p5 : 0 ≤ (x6_1 : Int) := sqD
     have q5 : x6_1 < (a0.size : Int) := sqD
     have hx5 := bt_at a0 x6_1
     replace p5 := eq_true p5
     replace q5 := eq_true q5
     obtain ⟨Ao7, co7, eo7⟩ := Kd.R_slice HO_5.out
     subst eo7
     go_wp2_with (first | ((with_reducible refine gate_callee (f := 53) rfl ?_); refine goesL_ (some 19) rfl rfl Tryd.func53 (by kernel_rfl) rfl #[.slice Ao7 x5_1.length co7, .int .u32 10, .int .u32 (((bt a0 x6_1) - 48) % 256)] rfl sqA ?_; (with_reducible refine (endonymref2_Times.calls k1 _ _ x5_1 10 (((bt a0 x6_1) - 48) % 256) t561 _ ?side1 ?side2 A6.out).mono ?_); (case side1 => repeat (first | exact (Kd.R_reads' HO_5.out).2.2 | (with_reducible refine Kd.C_alloc ?_ _) | (with_reducible refine Kd.C_drewN ?_ _) | (with_reducible refine Kd.C_drew ?_))); (case side2 => exact (Kd.R_reads' HO_5.out).2.1); rintro e w8 ⟨v562, rfl, ho0, hb⟩; refine ⟨_, rfl, ?_⟩; have n0_ := Aside0.mk (Kd.R_elder' (sqR HO_5.out) (Kd.R_base ho0) hb); have n1_ := Aside0.mk (Kd.R_lower (Kd.R_new' ho0 (Kd.R_lt (sqR HO_5.out))) (below_size sqB)); have n2_ := Aside0.mk (below_step sqB hb); clear HO_5; clear HB; have HO_5 := n0_; have HO563 := n1_; have HB := n2_; clear n0_ n1_ n2_; (try clear hb); (try clear hb2); (try clear hk); (try clear hi); (try clear ho0)))
     go_roundg k1
     case measure => have := HK1.out; omega
     case rel => exact ⟨(t561), (wrap64 (x6_1 + 1)), sqE, H', ⟨by have := HK1.out; omega⟩, ⟨by (with_reducible repeat (first | apply Kd.R_alloc | apply Kd.R_drewN | apply Kd.R_drew)); exact Kd.R_mono HO563.out (fun _ hk => trivial)⟩, ⟨sqB⟩⟩
    ·
     rw [if_neg c4] at H
     exact absurd H (by simp)
   ·
    rw [if_neg c3] at H
    have c3b0 := decide_eq_false c3
    clear c3
    by_cases c9 : (x5_1.length : Int) = 0
    ·
     rw [if_pos c9] at H
     have c9b0 := beq_iff_eq.mpr c9
     have c9b1 := bne_eq_false_iff_eq.mpr c9
     clear c9
     obtain rfl := Option.some.inj H
     obtain ⟨Ao10, co10, eo10⟩ := Kd.R_slice HO_5.out
     subst eo10
     go_wp2
     go_ret
     exact ⟨_, sqE', by first | exact Kd.R_nil _ _ _ _ _ | exact Kd.N_nil _ _ _ _ _ | exact Kd.V_nil _ _ _ _ _ | exact Kd.Q_nil _ _ _ _ _ | exact Kd.S_nil _ _ _ _ _, sqB⟩
    ·
     rw [if_neg c9] at H
     have c9b0 := beq_eq_false_iff_ne.mpr c9
     have c9b1 := bne_iff_ne.mpr c9
     have c9b2 : ¬ (x5_1 = []) := fun h_ => c9 (by rw [h_]; rfl)
     replace H := Option.bind_eq_some_iff.mp H
     obtain ⟨t564, A110, H⟩ := H
     try dsimp only at H
     have A11 := Aside0.mk A110
     clear A110
     replace H := Option.bind_eq_some_iff.mp H
     obtain ⟨t567, A120, H⟩ := H
     try dsimp only at H
     have A12 := Aside0.mk A120
     clear A120
     obtain rfl := Option.some.inj H
     obtain ⟨Ao13, co13, eo13⟩ := Kd.R_slice HO_5.out
     subst eo13
     go_wp2_with (first | ((with_reducible refine gate_callee (f := 78) rfl ?_); refine goesL_ (some 25) rfl rfl Tryd.func78 (by kernel_rfl) rfl #[.int .i64 a1] rfl sqA ?_; (with_reducible refine (endonymref2_Ten.calls k1 a1 t564 _ A11.out).mono ?_); rintro e w14 ⟨v565, rfl, ho0, hb⟩; refine ⟨_, rfl, ?_⟩; have n0_ := Aside0.mk (Kd.R_elder' (sqR HO_5.out) (Kd.R_base ho0) hb); have n1_ := Aside0.mk (Kd.R_lower (Kd.R_new' ho0 (Kd.R_lt (sqR HO_5.out))) (below_size sqB)); have n2_ := Aside0.mk (below_step sqB hb); clear HO_5; clear HB; have HO_5 := n0_; have HO566 := n1_; have HB := n2_; clear n0_ n1_ n2_; (try clear hb); (try clear hb2); (try clear hk); (try clear hi); (try clear ho0); obtain ⟨Ao15, co15, eo15⟩ := Kd.R_slice HO566.out; subst eo15) | ((with_reducible refine gate_callee (f := 77) rfl ?_); refine goesL_ (some 26) rfl rfl Tryd.func77 (by kernel_rfl) rfl #[.slice Ao13 x5_1.length co13, .slice Ao15 t564.length co15] rfl sqA ?_; (with_reducible refine (endonymref2_Product.calls k1 _ _ x5_1 _ _ t564 t567 _ ?side1 ?side2 ?side3 ?side4 A12.out).mono ?_); (case side1 => repeat (first | exact (Kd.R_reads' HO_5.out).2.2 | (with_reducible refine Kd.C_alloc ?_ _) | (with_reducible refine Kd.C_drewN ?_ _) | (with_reducible refine Kd.C_drew ?_))); (case side2 => exact (Kd.R_reads' HO_5.out).2.1); (case side3 => repeat (first | exact (Kd.R_reads' HO566.out).2.2 | (with_reducible refine Kd.C_alloc ?_ _) | (with_reducible refine Kd.C_drewN ?_ _) | (with_reducible refine Kd.C_drew ?_))); (case side4 => exact (Kd.R_reads' HO566.out).2.1); rintro e w16 ⟨v568, rfl, ho0, hb⟩; refine ⟨_, rfl, ?_⟩; have n0_ := Aside0.mk (Kd.R_elder' (sqR HO_5.out) (Kd.R_base ho0) hb); have n1_ := Aside0.mk (Kd.R_elder' (sqR HO566.out) (Kd.R_base ho0) hb); have n2_ := Aside0.mk (Kd.R_lower (Kd.R_new' (Kd.R_new' ho0 (Kd.R_lt (sqR HO_5.out))) (Kd.R_lt (sqR HO566.out))) (below_size sqB)); have n3_ := Aside0.mk (below_step sqB hb); clear HO_5; clear HO566; clear HB; have HO_5 := n0_; have HO566 := n1_; have HO569 := n2_; have HB := n3_; clear n0_ n1_ n2_ n3_; (try clear hb); (try clear hb2); (try clear hk); (try clear hi); (try clear ho0)))
     go_ret
     exact ⟨_, sqE', by (with_reducible repeat (first | apply Kd.R_alloc | apply Kd.R_drewN | apply Kd.R_drew)); exact Kd.R_mono HO569.out (fun _ hk => trivial), sqB⟩

/-! ### endonymref2_Cmp: function 51 -/
def endonymref2_Cmp.l0 : Nat → List Int → List Int → Int → Option (Int)
 | 0, _, _, _ => none
 | k + 1, x0, x1, x5 => if x5 ≥ 0 then (if 0 ≤ x5 then (if x5 < (x0.length : Int) then (if x5 < (x1.length : Int) then (if (rd x0 x5) < (rd x1 x5) then (some (-1)) else (if (rd x0 x5) > (rd x1 x5) then (some 1) else (endonymref2_Cmp.l0 k x0 x1 (wrap64 (x5 - 1))))) else (none)) else (none)) else (none)) else (some 0)
def endonymref2_Cmp.f (k : Nat) (l0 : List Int) (l1 : List Int) : Option (Int) := if (l0.length : Int) = (l1.length : Int) then (endonymref2_Cmp.l0 k l0 l1 (wrap64 ((l0.length : Int) - 1))) else (if (l0.length : Int) < (l1.length : Int) then (some (-1)) else (some 1))
theorem endonymref2_Cmp.mono_l : ∀ k, (∀ y0 y1 y2, LeO (endonymref2_Cmp.l0 k y0 y1 y2) (endonymref2_Cmp.l0 (k + 1) y0 y1 y2))
 | 0 => fun _ _ _ r h => by simp [endonymref2_Cmp.l0] at h
 | k + 1 => by
  have ih0 := endonymref2_Cmp.mono_l k
  ·
   intro y0 y1 y2
   unfold endonymref2_Cmp.l0
   repeat' first | (with_reducible first | apply ih0 | apply LeO.refl | apply LeO.none | refine LeO.ite ?_ ?_ | refine LeO.bind ?_ (fun _ => ?_)) | apply ih0 | apply LeO.none | refine LeO.ite ?_ ?_ | refine LeO.bind ?_ (fun _ => ?_)
theorem endonymref2_Cmp.mono : ∀ a0 a1 k, LeO (endonymref2_Cmp.f k a0 a1) (endonymref2_Cmp.f (k + 1) a0 a1) := by
 intro a0 a1 k
 have ih0 := endonymref2_Cmp.mono_l k
 unfold endonymref2_Cmp.f
 repeat' first | (with_reducible first | apply ih0 | apply LeO.refl | apply LeO.none | refine LeO.ite ?_ ?_ | refine LeO.bind ?_ (fun _ => ?_)) | apply ih0 | apply LeO.none | refine LeO.ite ?_ ?_ | refine LeO.bind ?_ (fun _ => ?_)
set_option maxHeartbeats 8000000 in
set_option maxRecDepth 100000 in
theorem endonymref2_Cmp.calls (k : Nat) (A0 : Option Addr) (c0 : Nat) (l0 : List Int) (A1 : Option Addr) (c1 : Nat) (l1 : List Int) (r : Int) (w : World) (hr0 : Kd.C (Kd.int .u32) w A0 l0.length l0) (hc0 : l0.length ≤ c0) (hr1 : Kd.C (Kd.int .u32) w A1 l1.length l1) (hc1 : l1.length ≤ c1) (h : endonymref2_Cmp.f k l0 l1 = some r) :
  Calls Tryd.prog 51 #[.slice A0 l0.length c0, .slice A1 l1.length c1] w fun e w' => e = .returned (.int .i64 r) ∧ Drawn0 w w' := by
 have HR0 := Aside0.mk hr0
 have HC0 := Aside0.mk hc0
 clear hr0 hc0
 have HR1 := Aside0.mk hr1
 have HC1 := Aside0.mk hc1
 clear hr1 hc1
 have H : (if (l0.length : Int) = (l1.length : Int) then (endonymref2_Cmp.l0 k l0 l1 (wrap64 ((l0.length : Int) - 1))) else (if (l0.length : Int) < (l1.length : Int) then (some (-1)) else (some 1))) = some r := h
 clear h
 by_cases c3 : (l0.length : Int) = (l1.length : Int)
 ·
  rw [if_pos c3] at H
  have c3b0 := beq_iff_eq.mpr c3
  have c3b1 := bne_eq_false_iff_eq.mpr c3
  have c3b2 : (l0.length == l1.length) = true := by first | simpa using c3 | (simp at c3 ⊢; omega)
  clear c3
  have H' := Aside0.mk H
  clear H
  go_enter Tryd.func51, Tryd.ntmps51
  go_wp2
  repeat (go_quiet (fail); try go_wp2)
  go_loopg [5] k (fun kq v5 w' => ∃ (x5_1 : Int), v5 = .int .i64 x5_1 ∧ Aside0 (endonymref2_Cmp.l0 kq l0 l1 x5_1 = some r) ∧ Aside0 (kq ≤ k) ∧ Drawn0 w w')
  case atStart => exact ⟨(wrap64 ((l0.length : Int) - 1)), sqE, H', ⟨Nat.le_refl _⟩, sqW⟩
  case round =>
   clear H'
   try clear c1
   try clear p2
   try clear c3
   try clear c3b0
   try clear c3b1
   try clear c3b2
   obtain ⟨x5_1, rfl, HA, HK1, ⟨m1, rfl⟩⟩ := hrel
   cases gk with
   | zero => exact absurd HA.out (by simp [endonymref2_Cmp.l0])
   | succ k1 =>
    have H := HA.out
    clear HA
    simp only [endonymref2_Cmp.l0] at H
    by_cases c4 : x5_1 ≥ 0
    ·
     rw [if_pos c4] at H
     have c4b0 := decide_eq_true c4
     clear c4
     by_cases c5 : 0 ≤ x5_1
     ·
      rw [if_pos c5] at H
      have c5b0 := decide_eq_true c5
      clear c5
      by_cases c6 : x5_1 < (l0.length : Int)
      ·
       rw [if_pos c6] at H
       have c6b0 := decide_eq_true c6
       clear c6
       by_cases c7 : x5_1 < (l1.length : Int)
       ·
        rw [if_pos c7] at H
        have c7b0 := decide_eq_true c7
        clear c7
        by_cases c8 : (rd l0 x5_1) < (rd l1 x5_1)
        ·
         rw [if_pos c8] at H
         have c8b0 := decide_eq_true c8
         clear c8
         obtain rfl := Option.some.inj H
         have p570 : 0 ≤ (x5_1 : Int) := sqD
         have q570 : x5_1 < (l0.length : Int) := sqD
         obtain ⟨ad570, e570, hx570_0⟩ := Kd.at_int HR0.out x5_1 p570 q570
         cases e570
         replace p570 := eq_true p570
         replace q570 := eq_true q570
         have p571 : 0 ≤ (x5_1 : Int) := sqD
         have q571 : x5_1 < (l1.length : Int) := sqD
         obtain ⟨ad571, e571, hx571_0⟩ := Kd.at_int HR1.out x5_1 p571 q571
         cases e571
         replace p571 := eq_true p571
         replace q571 := eq_true q571
         go_wp2
         repeat (go_quiet (fail); try go_wp2)
         go_ret
         exact ⟨sqE, sqW⟩
        ·
         rw [if_neg c8] at H
         have c8b0 := decide_eq_false c8
         clear c8
         by_cases c9 : (rd l0 x5_1) > (rd l1 x5_1)
         ·
          rw [if_pos c9] at H
          have c9b0 := decide_eq_true c9
          clear c9
          obtain rfl := Option.some.inj H
          have p570 : 0 ≤ (x5_1 : Int) := sqD
          have q570 : x5_1 < (l0.length : Int) := sqD
          obtain ⟨ad570, e570, hx570_0⟩ := Kd.at_int HR0.out x5_1 p570 q570
          cases e570
          replace p570 := eq_true p570
          replace q570 := eq_true q570
          have p571 : 0 ≤ (x5_1 : Int) := sqD
          have q571 : x5_1 < (l1.length : Int) := sqD
          obtain ⟨ad571, e571, hx571_0⟩ := Kd.at_int HR1.out x5_1 p571 q571
          cases e571
          replace p571 := eq_true p571
          replace q571 := eq_true q571
          have p572 : 0 ≤ (x5_1 : Int) := sqD
          have q572 : x5_1 < (l0.length : Int) := sqD
          obtain ⟨ad572, e572, hx572_0⟩ := Kd.at_int HR0.out x5_1 p572 q572
          obtain rfl : ad570 = ad572 := (by injection e572)
          replace p572 := eq_true p572
          replace q572 := eq_true q572
          have p573 : 0 ≤ (x5_1 : Int) := sqD
          have q573 : x5_1 < (l1.length : Int) := sqD
          obtain ⟨ad573, e573, hx573_0⟩ := Kd.at_int HR1.out x5_1 p573 q573
          obtain rfl : ad571 = ad573 := (by injection e573)
          replace p573 := eq_true p573
          replace q573 := eq_true q573
          go_wp2
          repeat (go_quiet (fail); try go_wp2)
          go_ret
          exact ⟨sqE, sqW⟩
         ·
          rw [if_neg c9] at H
          have c9b0 := decide_eq_false c9
          clear c9
          have H' := Aside0.mk H
          clear H
          have p570 : 0 ≤ (x5_1 : Int) := sqD
          have q570 : x5_1 < (l0.length : Int) := sqD
          obtain ⟨ad570, e570, hx570_0⟩ := Kd.at_int HR0.out x5_1 p570 q570
          cases e570
          replace p570 := eq_true p570
          replace q570 := eq_true q570
          have p571 : 0 ≤ (x5_1 : Int) := sqD
          have q571 : x5_1 < (l1.length : Int) := sqD
          obtain ⟨ad571, e571, hx571_0⟩ := Kd.at_int HR1.out x5_1 p571 q571
          cases e571
          replace p571 := eq_true p571
          replace q571 := eq_true q571
          have p572 : 0 ≤ (x5_1 : Int) := sqD
          have q572 : x5_1 < (l0.length : Int) := sqD
          obtain ⟨ad572, e572, hx572_0⟩ := Kd.at_int HR0.out x5_1 p572 q572
          obtain rfl : ad570 = ad572 := (by injection e572)
          replace p572 := eq_true p572
          replace q572 := eq_true q572
          have p573 : 0 ≤ (x5_1 : Int) := sqD
          have q573 : x5_1 < (l1.length : Int) := sqD
          obtain ⟨ad573, e573, hx573_0⟩ := Kd.at_int HR1.out x5_1 p573 q573
          obtain rfl : ad571 = ad573 := (by injection e573)
          replace p573 := eq_true p573
          replace q573 := eq_true q573
          go_wp2
          repeat (go_quiet (fail); try go_wp2)
          go_roundg k1
          case measure => have := HK1.out; omega
          case rel => exact ⟨(wrap64 (x5_1 - 1)), sqE, H', ⟨by have := HK1.out; omega⟩, sqW⟩
       ·
        rw [if_neg c7] at H
        exact absurd H (by simp)
      ·
       rw [if_neg c6] at H
       exact absurd H (by simp)
     ·
      rw [if_neg c5] at H
      exact absurd H (by simp)
    ·
     rw [if_neg c4] at H
     have c4b0 := decide_eq_false c4
     clear c4
     obtain rfl := Option.some.inj H
     go_wp2
     repeat (go_quiet (fail); try go_wp2)
     go_ret
     exact ⟨sqE, sqW⟩
 ·
  rw [if_neg c3] at H
  have c3b0 := beq_eq_false_iff_ne.mpr c3
  have c3b1 := bne_iff_ne.mpr c3
  have c3b2 : (l0.length == l1.length) = false := by first | simpa using c3 | (simp at c3 ⊢; omega)
  by_cases c10 : (l0.length : Int) < (l1.length : Int)
  ·
   rw [if_pos c10] at H
   have c10b0 := decide_eq_true c10
   have c10b1 : decide (l0.length < l1.length) = true := decide_eq_true (Int.ofNat_lt.mp c10)
   clear c10
   obtain rfl := Option.some.inj H
   go_enter Tryd.func51, Tryd.ntmps51
   go_wp2
   repeat (go_quiet (fail); try go_wp2)
   go_ret
   exact ⟨sqE, sqW⟩
  ·
   rw [if_neg c10] at H
   have c10b0 := decide_eq_false c10
   have c10b1 : decide (l0.length < l1.length) = false := decide_eq_false (fun h => c10 (Int.ofNat_lt.mpr h))
   clear c10
   obtain rfl := Option.some.inj H
   go_enter Tryd.func51, Tryd.ntmps51
   go_wp2
   repeat (go_quiet (fail); try go_wp2)
   go_ret
   exact ⟨sqE, sqW⟩

/-! ### endonymlaw2_against: function 21 -/
mutual
def endonymlaw2_against.j2 : Nat → Bool → List Int → List Int → Option (Int)
 | 0, _, _, _ => none
 | k + 1, x5, x16, x17 => if x5 = true then ((endonymref2_Cmp.f k x17 x16).bind fun t590 => (some t590)) else ((endonymref2_Cmp.f k x16 x17).bind fun t591 => (some t591))
def endonymlaw2_against.j0 : Nat → Bool → Bool → List Int → List Int → Bool → Option (Int)
 | 0, _, _, _, _, _ => none
 | k + 1, x5, x10, x16, x17, x55 => if x55 = true then (some 0) else (if x5 = true then (if x10 = true then (if (x16.length : Int) = 0 then (endonymlaw2_against.j1 k x5 x10 x16 x17 (!x10)) else (endonymlaw2_against.j1 k x5 x10 x16 x17 false)) else (endonymlaw2_against.j1 k x5 x10 x16 x17 true)) else (if (x16.length : Int) = 0 then (endonymlaw2_against.j1 k x5 x10 x16 x17 (!x10)) else (endonymlaw2_against.j1 k x5 x10 x16 x17 false)))
def endonymlaw2_against.j1 : Nat → Bool → Bool → List Int → List Int → Bool → Option (Int)
 | 0, _, _, _, _, _ => none
 | k + 1, x5, x10, x16, x17, x64 => if x64 = true then (some (-1)) else (if x10 = true then (if x5 = true then (if (x17.length : Int) = 0 then (endonymlaw2_against.j2 k x5 x16 x17) else (endonymlaw2_against.j2 k x5 x16 x17)) else (some 1)) else (if (x17.length : Int) = 0 then (if x5 = true then (endonymlaw2_against.j2 k x5 x16 x17) else (some 1)) else (endonymlaw2_against.j2 k x5 x16 x17)))
end
def endonymlaw2_against.f (k : Nat) (a0 : ByteArray) (a1 : ByteArray) : Option (Int) := (endonymref2_Read.f k a0).bind fun bt574 => ((endonymref2_Read.f k a1).bind fun bt579 => ((endonymlaw2_scaled.f k bt574.2.1 (wrap64 ((wrap64 (bt574.2.2.2.1 - bt574.2.2.1)) - (mn (wrap64 (bt574.2.2.2.1 - bt574.2.2.1)) (wrap64 (bt579.2.2.2.1 - bt579.2.2.1)))))).bind fun t584 => ((endonymlaw2_scaled.f k bt579.2.1 (wrap64 ((wrap64 (bt579.2.2.2.1 - bt579.2.2.1)) - (mn (wrap64 (bt574.2.2.2.1 - bt574.2.2.1)) (wrap64 (bt579.2.2.2.1 - bt579.2.2.1)))))).bind fun t587 => (if (t584.length : Int) = 0 then (endonymlaw2_against.j0 k bt574.1 bt579.1 t584 t587 ((t587.length : Int) == 0)) else (endonymlaw2_against.j0 k bt574.1 bt579.1 t584 t587 false)))))
theorem endonymlaw2_against.mono_l : ∀ k, (∀ y0 y1 y2, LeO (endonymlaw2_against.j2 k y0 y1 y2) (endonymlaw2_against.j2 (k + 1) y0 y1 y2)) ∧ (∀ y0 y1 y2 y3 y4, LeO (endonymlaw2_against.j0 k y0 y1 y2 y3 y4) (endonymlaw2_against.j0 (k + 1) y0 y1 y2 y3 y4)) ∧ (∀ y0 y1 y2 y3 y4, LeO (endonymlaw2_against.j1 k y0 y1 y2 y3 y4) (endonymlaw2_against.j1 (k + 1) y0 y1 y2 y3 y4))
 | 0 => ⟨fun _ _ _ r h => by simp [endonymlaw2_against.j2] at h, fun _ _ _ _ _ r h => by simp [endonymlaw2_against.j0] at h, fun _ _ _ _ _ r h => by simp [endonymlaw2_against.j1] at h⟩
 | k + 1 => by
  obtain ⟨ih0, ih1, ih2⟩ := endonymlaw2_against.mono_l k
  refine ⟨?_, ?_, ?_⟩
  ·
   intro y0 y1 y2
   unfold endonymlaw2_against.j2
   repeat' first | (with_reducible first | apply ih0 | apply ih1 | apply ih2 | apply endonymlaw2_scaled.mono | apply endonymref2_Cmp.mono | apply endonymref2_Read.mono | apply LeO.refl | apply LeO.none | refine LeO.ite ?_ ?_ | refine LeO.bind ?_ (fun _ => ?_)) | apply ih0 | apply ih1 | apply ih2 | apply endonymlaw2_scaled.mono | apply endonymref2_Cmp.mono | apply endonymref2_Read.mono | apply LeO.none | refine LeO.ite ?_ ?_ | refine LeO.bind ?_ (fun _ => ?_)
  ·
   intro y0 y1 y2 y3 y4
   unfold endonymlaw2_against.j0
   repeat' first | (with_reducible first | apply ih0 | apply ih1 | apply ih2 | apply endonymlaw2_scaled.mono | apply endonymref2_Cmp.mono | apply endonymref2_Read.mono | apply LeO.refl | apply LeO.none | refine LeO.ite ?_ ?_ | refine LeO.bind ?_ (fun _ => ?_)) | apply ih0 | apply ih1 | apply ih2 | apply endonymlaw2_scaled.mono | apply endonymref2_Cmp.mono | apply endonymref2_Read.mono | apply LeO.none | refine LeO.ite ?_ ?_ | refine LeO.bind ?_ (fun _ => ?_)
  ·
   intro y0 y1 y2 y3 y4
   unfold endonymlaw2_against.j1
   repeat' first | (with_reducible first | apply ih0 | apply ih1 | apply ih2 | apply endonymlaw2_scaled.mono | apply endonymref2_Cmp.mono | apply endonymref2_Read.mono | apply LeO.refl | apply LeO.none | refine LeO.ite ?_ ?_ | refine LeO.bind ?_ (fun _ => ?_)) | apply ih0 | apply ih1 | apply ih2 | apply endonymlaw2_scaled.mono | apply endonymref2_Cmp.mono | apply endonymref2_Read.mono | apply LeO.none | refine LeO.ite ?_ ?_ | refine LeO.bind ?_ (fun _ => ?_)
theorem endonymlaw2_against.mono : ∀ a0 a1 k, LeO (endonymlaw2_against.f k a0 a1) (endonymlaw2_against.f (k + 1) a0 a1) := by
 intro a0 a1 k
 obtain ⟨ih0, ih1, ih2⟩ := endonymlaw2_against.mono_l k
 unfold endonymlaw2_against.f
 repeat' first | (with_reducible first | apply ih0 | apply ih1 | apply ih2 | apply endonymlaw2_scaled.mono | apply endonymref2_Cmp.mono | apply endonymref2_Read.mono | apply LeO.refl | apply LeO.none | refine LeO.ite ?_ ?_ | refine LeO.bind ?_ (fun _ => ?_)) | apply ih0 | apply ih1 | apply ih2 | apply endonymlaw2_scaled.mono | apply endonymref2_Cmp.mono | apply endonymref2_Read.mono | apply LeO.none | refine LeO.ite ?_ ?_ | refine LeO.bind ?_ (fun _ => ?_)
set_option maxHeartbeats 8000000 in
set_option maxRecDepth 100000 in
theorem endonymlaw2_against.calls (k : Nat) (a0 : ByteArray) (a1 : ByteArray) (r : Int) (w : World) (h : endonymlaw2_against.f k a0 a1 = some r) :
  Calls Tryd.prog 21 #[.string a0, .string a1] w fun e w' => e = .returned (.int .i64 r) ∧ Below w.heap.size w w' := by
 have HB := Aside0.mk (Below.refl w.heap.size w)
 have H : ((endonymref2_Read.f k a0).bind fun bt574 => ((endonymref2_Read.f k a1).bind fun bt579 => ((endonymlaw2_scaled.f k bt574.2.1 (wrap64 ((wrap64 (bt574.2.2.2.1 - bt574.2.2.1)) - (mn (wrap64 (bt574.2.2.2.1 - bt574.2.2.1)) (wrap64 (bt579.2.2.2.1 - bt579.2.2.1)))))).bind fun t584 => ((endonymlaw2_scaled.f k bt579.2.1 (wrap64 ((wrap64 (bt579.2.2.2.1 - bt579.2.2.1)) - (mn (wrap64 (bt574.2.2.2.1 - bt574.2.2.1)) (wrap64 (bt579.2.2.2.1 - bt579.2.2.1)))))).bind fun t587 => (if (t584.length : Int) = 0 then (endonymlaw2_against.j0 k bt574.1 bt579.1 t584 t587 ((t587.length : Int) == 0)) else (endonymlaw2_against.j0 k bt574.1 bt579.1 t584 t587 false)))))) = some r := h
 clear h
 replace H := Option.bind_eq_some_iff.mp H
 obtain ⟨⟨t574, t575, t576, t577, t578⟩, A30, H⟩ := H
 try dsimp only at H
 have A3 := Aside0.mk A30
 clear A30
 replace H := Option.bind_eq_some_iff.mp H
 obtain ⟨⟨t579, t580, t581, t582, t583⟩, A40, H⟩ := H
 try dsimp only at H
 have A4 := Aside0.mk A40
 clear A40
 obtain ⟨ji5, hji5⟩ : ∃ j_ : Int, (mn (wrap64 (t577 - t576)) (wrap64 (t582 - t581))) = j_ := ⟨_, rfl⟩
 replace H : ((endonymlaw2_scaled.f k t575 (wrap64 ((wrap64 (t577 - t576)) - (ji5)))).bind fun t584 => ((endonymlaw2_scaled.f k t580 (wrap64 ((wrap64 (t582 - t581)) - (ji5)))).bind fun t587 => (if (t584.length : Int) = 0 then (endonymlaw2_against.j0 k t574 t579 t584 t587 ((t587.length : Int) == 0)) else (endonymlaw2_against.j0 k t574 t579 t584 t587 false)))) = some r := by first | (rw [hji5] at H; exact H) | (simp only [hji5] at H ⊢; exact H)
 (try rw [hji5] at A3)
 (try rw [hji5] at A4)
 have hji5_ : (if (wrap64 (t582 - t581)) < (wrap64 (t577 - t576)) then (wrap64 (t582 - t581)) else (wrap64 (t577 - t576))) = ji5 := hji5
 replace H := Option.bind_eq_some_iff.mp H
 obtain ⟨t584, A60, H⟩ := H
 try dsimp only at H
 have A6 := Aside0.mk A60
 clear A60
 replace H := Option.bind_eq_some_iff.mp H
 obtain ⟨t587, A70, H⟩ := H
 try dsimp only at H
 have A7 := Aside0.mk A70
 clear A70
 have HC8 := Aside0.mk H
 clear H
 go_enter Tryd.func21, Tryd.ntmps21
 go_upto_block 0 with (first | ((with_reducible refine gate_callee (f := 49) rfl ?_); refine goesL_ (some 20) rfl rfl Tryd.func49 (by kernel_rfl) rfl #[.string a0] rfl sqA ?_; (with_reducible refine (endonymref2_Read.calls k a0 t574 t575 t576 t577 t578 _ A3.out).mono ?_); rintro e w' ⟨rfl, ⟨nd, rfl⟩⟩; refine ⟨_, rfl, ?_⟩) | ((with_reducible refine gate_callee (f := 49) rfl ?_); refine goesL_ (some 28) rfl rfl Tryd.func49 (by kernel_rfl) rfl #[.string a1] rfl sqA ?_; (with_reducible refine (endonymref2_Read.calls k a1 t579 t580 t581 t582 t583 _ A4.out).mono ?_); rintro e w' ⟨rfl, ⟨nd, rfl⟩⟩; refine ⟨_, rfl, ?_⟩) | ((with_reducible refine gate_callee (f := 50) rfl ?_); refine goesL_ (some 47) rfl rfl Tryd.func50 (by kernel_rfl) rfl #[.string t575, .int .i64 (wrap64 ((wrap64 (t577 - t576)) - (ji5)))] rfl (by (try simp only [List.map_toArray, List.map_cons, List.map_nil]); first | done | (simp only [hji5]; rfl) | rfl | (simp only [List.length_drop, List.length_take]; rfl)) ?_; (with_reducible refine (endonymlaw2_scaled.calls k t575 (wrap64 ((wrap64 (t577 - t576)) - (ji5))) t584 _ A6.out).mono ?_); rintro e w9 ⟨v585, rfl, ho0, hb⟩; refine ⟨_, rfl, ?_⟩; have n0_ := Aside0.mk (Kd.R_lower ho0 (below_size sqB)); have n1_ := Aside0.mk (below_step sqB hb); clear HB; have HO586 := n0_; have HB := n1_; clear n0_ n1_; (try clear hb); (try clear hb2); (try clear hk); (try clear hi); (try clear ho0)) | ((with_reducible refine gate_callee (f := 50) rfl ?_); refine goesL_ (some 54) rfl rfl Tryd.func50 (by kernel_rfl) rfl #[.string t580, .int .i64 (wrap64 ((wrap64 (t582 - t581)) - (ji5)))] rfl (by (try simp only [List.map_toArray, List.map_cons, List.map_nil]); first | done | (simp only [hji5]; rfl) | rfl | (simp only [List.length_drop, List.length_take]; rfl)) ?_; (with_reducible refine (endonymlaw2_scaled.calls k t580 (wrap64 ((wrap64 (t582 - t581)) - (ji5))) t587 _ A7.out).mono ?_); rintro e w10 ⟨v588, rfl, ho0, hb⟩; refine ⟨_, rfl, ?_⟩; have n0_ := Aside0.mk (Kd.R_elder' (sqR HO586.out) (Kd.R_base ho0) hb); have n1_ := Aside0.mk (Kd.R_lower (Kd.R_new' ho0 (Kd.R_lt (sqR HO586.out))) (below_size sqB)); have n2_ := Aside0.mk (below_step sqB hb); clear HO586; clear HB; have HO586 := n0_; have HO589 := n1_; have HB := n2_; clear n0_ n1_ n2_; (try clear hb); (try clear hb2); (try clear hk); (try clear hi); (try clear ho0)))
 (try simp only [Act.put, List.setIfInBounds_toArray, List.set_cons_zero, List.set_cons_succ])
 go_cut [] (fun wc => ∃ (kq : Nat), Aside0 (endonymlaw2_against.j2 kq t574 t584 t587 = some r) ∧ Aside0 (kq ≤ k) ∧ Aside0 (Kd.R (Kd.int .u32) 84 wc w.heap.size (fun k_ => some k_ ≠ (v588 : Value).ownBlock) v585 t584) ∧ Aside0 (Kd.R (Kd.int .u32) 84 wc w.heap.size (fun k_ => some k_ ≠ (v585 : Value).ownBlock) v588 t587) ∧ Aside0 (Below w.heap.size w wc))
 case first =>
  have H := HC8.out
  clear HC8
  have HC11 := Aside0.mk H
  clear H
  go_upto_region 5 with (fail)
  go_cut [55] (fun v55 wc => ∃ (kq : Nat) (x55_10 : Bool), v55 = .bool x55_10 ∧ Aside0 (endonymlaw2_against.j0 kq t574 t579 t584 t587 x55_10 = some r) ∧ Aside0 (kq ≤ k) ∧ Aside0 (Kd.R (Kd.int .u32) 84 wc w.heap.size (fun k_ => some k_ ≠ (v588 : Value).ownBlock) v585 t584) ∧ Aside0 (Kd.R (Kd.int .u32) 84 wc w.heap.size (fun k_ => some k_ ≠ (v585 : Value).ownBlock) v588 t587) ∧ Aside0 (Below w.heap.size w wc))
  case first =>
   have H := HC11.out
   clear HC11
   by_cases c12 : (t584.length : Int) = 0
   ·
    rw [if_pos c12] at H
    have c12b0 := beq_iff_eq.mpr c12
    have c12b1 := bne_eq_false_iff_eq.mpr c12
    clear c12
    (first | rw [c12b0] | (simp only [i64_w, i32_w]; rw [c12b0]) | skip)
    have H' := Aside0.mk H
    clear H
    obtain ⟨Ao13, co13, eo13⟩ := Kd.R_slice HO586.out
    subst eo13
    obtain ⟨Ao14, co14, eo14⟩ := Kd.R_slice HO589.out
    subst eo14
    go_wp2
    go_meet
    case rel => exact ⟨_, (((t587.length : Int) == 0)), sqE, H', ⟨by first | omega | exact Nat.le_refl _⟩, ⟨by (with_reducible repeat (first | apply Kd.R_alloc | apply Kd.R_drewN | apply Kd.R_drew)); exact Kd.R_mono HO586.out (fun _ hk => hk.2)⟩, ⟨by (with_reducible repeat (first | apply Kd.R_alloc | apply Kd.R_drewN | apply Kd.R_drew)); exact Kd.R_mono HO589.out (fun _ hk => hk.2)⟩, ⟨sqB⟩⟩
   ·
    rw [if_neg c12] at H
    have c12b0 := beq_eq_false_iff_ne.mpr c12
    have c12b1 := bne_iff_ne.mpr c12
    have c12b2 : ¬ (t584 = []) := fun h_ => c12 (by rw [h_]; rfl)
    (first | rw [c12b0] | (simp only [i64_w, i32_w]; rw [c12b0]) | skip)
    have H' := Aside0.mk H
    clear H
    obtain ⟨Ao15, co15, eo15⟩ := Kd.R_slice HO586.out
    subst eo15
    go_wp2
    go_meet
    case rel => exact ⟨_, (false), sqE, H', ⟨by first | omega | exact Nat.le_refl _⟩, ⟨by (with_reducible repeat (first | apply Kd.R_alloc | apply Kd.R_drewN | apply Kd.R_drew)); exact Kd.R_mono HO586.out (fun _ hk => hk.2)⟩, ⟨by (with_reducible repeat (first | apply Kd.R_alloc | apply Kd.R_drewN | apply Kd.R_drew)); exact Kd.R_mono HO589.out (fun _ hk => hk.2)⟩, ⟨sqB⟩⟩
  case rest =>
   clear HC11
   try clear c1
   try clear c2
   try clear p2
   try clear c4
   try clear c5
   try clear p6
   try clear c12
   try clear c12b0
   try clear c12b1
   try clear c12b2
   obtain ⟨kq, x55_10, rfl, HA, HJ10, HO_16, HO_17, HB⟩ := hcut
   cases kq with
   | zero => exact absurd HA.out (by simp [endonymlaw2_against.j0])
   | succ kj10 =>
    have H := HA.out
    clear HA
    simp only [endonymlaw2_against.j0] at H
    by_cases c16 : x55_10 = true
    ·
     subst c16
     have H1 : (some 0) = some r := by rw [if_pos rfl] at H; exact H
     clear H
     have H := H1
     clear H1
     obtain rfl := Option.some.inj H
     go_wp2
     go_ret
     exact ⟨by first | rfl | (simp [errW_none, errW_some] <;> rfl) | (simp only [← hji5]; first | rfl | (simp [errW_none, errW_some] <;> rfl)) | (simp [*, errW_none, errW_some] <;> rfl), sqB⟩
    ·
     replace c16 := Bool.eq_false_iff.mpr c16
     subst c16
     have H1 : (if t574 = true then (if t579 = true then (if (t584.length : Int) = 0 then (endonymlaw2_against.j1 kj10 t574 t579 t584 t587 (!t579)) else (endonymlaw2_against.j1 kj10 t574 t579 t584 t587 false)) else (endonymlaw2_against.j1 kj10 t574 t579 t584 t587 true)) else (if (t584.length : Int) = 0 then (endonymlaw2_against.j1 kj10 t574 t579 t584 t587 (!t579)) else (endonymlaw2_against.j1 kj10 t574 t579 t584 t587 false))) = some r := by rw [if_neg (show ¬ (false = true) by decide)] at H; exact H
     clear H
     have H := H1
     clear H1
     have HC17 := Aside0.mk H
     clear H
     go_upto_region 7 with (fail)
     go_cut [64] (fun v64 wc => ∃ (kq : Nat) (x64_16 : Bool), v64 = .bool x64_16 ∧ Aside0 (endonymlaw2_against.j1 kq t574 t579 t584 t587 x64_16 = some r) ∧ Aside0 (kq ≤ kj10) ∧ Aside0 (Kd.R (Kd.int .u32) 84 wc w.heap.size (fun k_ => some k_ ≠ (v588 : Value).ownBlock) v585 t584) ∧ Aside0 (Kd.R (Kd.int .u32) 84 wc w.heap.size (fun k_ => some k_ ≠ (v585 : Value).ownBlock) v588 t587) ∧ Aside0 (Below w.heap.size w wc))
     case first =>
      have H := HC17.out
      clear HC17
      by_cases c18 : t574 = true
      ·
       subst c18
       have H1 : (if t579 = true then (if (t584.length : Int) = 0 then (endonymlaw2_against.j1 kj10 true t579 t584 t587 (!t579)) else (endonymlaw2_against.j1 kj10 true t579 t584 t587 false)) else (endonymlaw2_against.j1 kj10 true t579 t584 t587 true)) = some r := by rw [if_pos rfl] at H; exact H
       clear H
       have H := H1
       clear H1
       by_cases c19 : t579 = true
       ·
        subst c19
        have H1 : (if (t584.length : Int) = 0 then (endonymlaw2_against.j1 kj10 true true t584 t587 (!true)) else (endonymlaw2_against.j1 kj10 true true t584 t587 false)) = some r := by rw [if_pos rfl] at H; exact H
        clear H
        have H := H1
        clear H1
        by_cases c20 : (t584.length : Int) = 0
        ·
         rw [if_pos c20] at H
         have c20b0 := beq_iff_eq.mpr c20
         have c20b1 := bne_eq_false_iff_eq.mpr c20
         clear c20
         (first | rw [c20b0] | (simp only [i64_w, i32_w]; rw [c20b0]) | skip)
         have H' := Aside0.mk H
         clear H
         obtain ⟨Ao21, co21, eo21⟩ := Kd.R_slice HO_16.out
         subst eo21
         go_wp2
         go_meet
         case rel => exact ⟨_, (!true), sqE, H', ⟨by have := HJ10.out; first | omega | exact Nat.le_refl _⟩, ⟨sqR HO_16.out⟩, ⟨sqR HO_17.out⟩, ⟨sqB⟩⟩
        ·
         rw [if_neg c20] at H
         have c20b0 := beq_eq_false_iff_ne.mpr c20
         have c20b1 := bne_iff_ne.mpr c20
         have c20b2 : ¬ (t584 = []) := fun h_ => c20 (by rw [h_]; rfl)
         (first | rw [c20b0] | (simp only [i64_w, i32_w]; rw [c20b0]) | skip)
         have H' := Aside0.mk H
         clear H
         obtain ⟨Ao22, co22, eo22⟩ := Kd.R_slice HO_16.out
         subst eo22
         go_wp2
         go_meet
         case rel => exact ⟨_, (false), sqE, H', ⟨by have := HJ10.out; first | omega | exact Nat.le_refl _⟩, ⟨sqR HO_16.out⟩, ⟨sqR HO_17.out⟩, ⟨sqB⟩⟩
       ·
        replace c19 := Bool.eq_false_iff.mpr c19
        subst c19
        have H1 : (endonymlaw2_against.j1 kj10 true false t584 t587 true) = some r := by rw [if_neg (show ¬ (false = true) by decide)] at H; exact H
        clear H
        have H := H1
        clear H1
        have H' := Aside0.mk H
        clear H
        go_wp2
        go_meet
        case rel => exact ⟨_, (true), sqE, H', ⟨by have := HJ10.out; first | omega | exact Nat.le_refl _⟩, ⟨sqR HO_16.out⟩, ⟨sqR HO_17.out⟩, ⟨sqB⟩⟩
      ·
       replace c18 := Bool.eq_false_iff.mpr c18
       subst c18
       have H1 : (if (t584.length : Int) = 0 then (endonymlaw2_against.j1 kj10 false t579 t584 t587 (!t579)) else (endonymlaw2_against.j1 kj10 false t579 t584 t587 false)) = some r := by rw [if_neg (show ¬ (false = true) by decide)] at H; exact H
       clear H
       have H := H1
       clear H1
       by_cases c23 : (t584.length : Int) = 0
       ·
        rw [if_pos c23] at H
        have c23b0 := beq_iff_eq.mpr c23
        have c23b1 := bne_eq_false_iff_eq.mpr c23
        clear c23
        have H' := Aside0.mk H
        clear H
        obtain ⟨Ao24, co24, eo24⟩ := Kd.R_slice HO_16.out
        subst eo24
        go_wp2
        go_meet
        case rel => exact ⟨_, (!t579), sqE, H', ⟨by have := HJ10.out; first | omega | exact Nat.le_refl _⟩, ⟨sqR HO_16.out⟩, ⟨sqR HO_17.out⟩, ⟨sqB⟩⟩
       ·
        rw [if_neg c23] at H
        have c23b0 := beq_eq_false_iff_ne.mpr c23
        have c23b1 := bne_iff_ne.mpr c23
        have c23b2 : ¬ (t584 = []) := fun h_ => c23 (by rw [h_]; rfl)
        have H' := Aside0.mk H
        clear H
        obtain ⟨Ao25, co25, eo25⟩ := Kd.R_slice HO_16.out
        subst eo25
        go_wp2
        go_meet
        case rel => exact ⟨_, (false), sqE, H', ⟨by have := HJ10.out; first | omega | exact Nat.le_refl _⟩, ⟨sqR HO_16.out⟩, ⟨sqR HO_17.out⟩, ⟨sqB⟩⟩
     case rest =>
      clear HC17
      try clear c1
      try clear c2
      try clear p2
      try clear c4
      try clear c5
      try clear p6
      try clear c12
      try clear c12b0
      try clear c12b1
      try clear c12b2
      try clear c16
      try clear c18
      try clear c19
      try clear c20
      try clear c20b0
      try clear c20b1
      try clear c20b2
      try clear c21
      try clear c23
      try clear c23b0
      try clear c23b1
      try clear c23b2
      try clear p2
      try clear p6
      obtain ⟨kq, x64_16, rfl, HA, HJ16, HO_16, HO_17, HB⟩ := hcut
      cases kq with
      | zero => exact absurd HA.out (by simp [endonymlaw2_against.j1])
      | succ kj16 =>
       have H := HA.out
       clear HA
       simp only [endonymlaw2_against.j1] at H
       by_cases c26 : x64_16 = true
       ·
        subst c26
        have H1 : (some (-1)) = some r := by rw [if_pos rfl] at H; exact H
        clear H
        have H := H1
        clear H1
        obtain rfl := Option.some.inj H
        go_wp2
        go_ret
        exact ⟨by first | rfl | (simp [errW_none, errW_some] <;> rfl) | (simp only [← hji5]; first | rfl | (simp [errW_none, errW_some] <;> rfl)) | (simp [*, errW_none, errW_some] <;> rfl), sqB⟩
       ·
        replace c26 := Bool.eq_false_iff.mpr c26
        subst c26
        have H1 : (if t579 = true then (if t574 = true then (if (t587.length : Int) = 0 then (endonymlaw2_against.j2 kj16 t574 t584 t587) else (endonymlaw2_against.j2 kj16 t574 t584 t587)) else (some 1)) else (if (t587.length : Int) = 0 then (if t574 = true then (endonymlaw2_against.j2 kj16 t574 t584 t587) else (some 1)) else (endonymlaw2_against.j2 kj16 t574 t584 t587))) = some r := by rw [if_neg (show ¬ (false = true) by decide)] at H; exact H
        clear H
        have H := H1
        clear H1
        by_cases c27 : t579 = true
        ·
         subst c27
         have H1 : (if t574 = true then (if (t587.length : Int) = 0 then (endonymlaw2_against.j2 kj16 t574 t584 t587) else (endonymlaw2_against.j2 kj16 t574 t584 t587)) else (some 1)) = some r := by rw [if_pos rfl] at H; exact H
         clear H
         have H := H1
         clear H1
         by_cases c28 : t574 = true
         ·
          subst c28
          have H1 : (if (t587.length : Int) = 0 then (endonymlaw2_against.j2 kj16 true t584 t587) else (endonymlaw2_against.j2 kj16 true t584 t587)) = some r := by rw [if_pos rfl] at H; exact H
          clear H
          have H := H1
          clear H1
          by_cases c29 : (t587.length : Int) = 0
          ·
           rw [if_pos c29] at H
           have c29b0 := beq_iff_eq.mpr c29
           have c29b1 := bne_eq_false_iff_eq.mpr c29
           clear c29
           have H' := Aside0.mk H
           clear H
           obtain ⟨Ao30, co30, eo30⟩ := Kd.R_slice HO_17.out
           subst eo30
           go_wp2
           go_meet
           case rel => exact ⟨_, H', ⟨by have := HJ10.out; have := HJ16.out; first | omega | exact Nat.le_refl _⟩, ⟨sqR HO_16.out⟩, ⟨sqR HO_17.out⟩, ⟨sqB⟩⟩
          ·
           rw [if_neg c29] at H
           have c29b0 := beq_eq_false_iff_ne.mpr c29
           have c29b1 := bne_iff_ne.mpr c29
           have c29b2 : ¬ (t587 = []) := fun h_ => c29 (by rw [h_]; rfl)
           have H' := Aside0.mk H
           clear H
           obtain ⟨Ao31, co31, eo31⟩ := Kd.R_slice HO_17.out
           subst eo31
           go_wp2
           go_meet
           case rel => exact ⟨_, H', ⟨by have := HJ10.out; have := HJ16.out; first | omega | exact Nat.le_refl _⟩, ⟨sqR HO_16.out⟩, ⟨sqR HO_17.out⟩, ⟨sqB⟩⟩
         ·
          replace c28 := Bool.eq_false_iff.mpr c28
          subst c28
          have H1 : (some 1) = some r := by rw [if_neg (show ¬ (false = true) by decide)] at H; exact H
          clear H
          have H := H1
          clear H1
          obtain rfl := Option.some.inj H
          go_wp2
          go_ret
          exact ⟨by first | rfl | (simp [errW_none, errW_some] <;> rfl) | (simp only [← hji5]; first | rfl | (simp [errW_none, errW_some] <;> rfl)) | (simp [*, errW_none, errW_some] <;> rfl), sqB⟩
        ·
         replace c27 := Bool.eq_false_iff.mpr c27
         subst c27
         have H1 : (if (t587.length : Int) = 0 then (if t574 = true then (endonymlaw2_against.j2 kj16 t574 t584 t587) else (some 1)) else (endonymlaw2_against.j2 kj16 t574 t584 t587)) = some r := by rw [if_neg (show ¬ (false = true) by decide)] at H; exact H
         clear H
         have H := H1
         clear H1
         by_cases c32 : (t587.length : Int) = 0
         ·
          rw [if_pos c32] at H
          have c32b0 := beq_iff_eq.mpr c32
          have c32b1 := bne_eq_false_iff_eq.mpr c32
          clear c32
          by_cases c33 : t574 = true
          ·
           subst c33
           have H1 : (endonymlaw2_against.j2 kj16 true t584 t587) = some r := by rw [if_pos rfl] at H; exact H
           clear H
           have H := H1
           clear H1
           have H' := Aside0.mk H
           clear H
           obtain ⟨Ao34, co34, eo34⟩ := Kd.R_slice HO_17.out
           subst eo34
           go_wp2
           go_meet
           case rel => exact ⟨_, H', ⟨by have := HJ10.out; have := HJ16.out; first | omega | exact Nat.le_refl _⟩, ⟨sqR HO_16.out⟩, ⟨sqR HO_17.out⟩, ⟨sqB⟩⟩
          ·
           replace c33 := Bool.eq_false_iff.mpr c33
           subst c33
           have H1 : (some 1) = some r := by rw [if_neg (show ¬ (false = true) by decide)] at H; exact H
           clear H
           have H := H1
           clear H1
           obtain rfl := Option.some.inj H
           obtain ⟨Ao35, co35, eo35⟩ := Kd.R_slice HO_17.out
           subst eo35
           go_wp2
           go_ret
           exact ⟨by first | rfl | (simp [errW_none, errW_some] <;> rfl) | (simp only [← hji5]; first | rfl | (simp [errW_none, errW_some] <;> rfl)) | (simp [*, errW_none, errW_some] <;> rfl), sqB⟩
         ·
          rw [if_neg c32] at H
          have c32b0 := beq_eq_false_iff_ne.mpr c32
          have c32b1 := bne_iff_ne.mpr c32
          have c32b2 : ¬ (t587 = []) := fun h_ => c32 (by rw [h_]; rfl)
          have H' := Aside0.mk H
          clear H
          obtain ⟨Ao36, co36, eo36⟩ := Kd.R_slice HO_17.out
          subst eo36
          go_wp2
          go_meet
          case rel => exact ⟨_, H', ⟨by have := HJ10.out; have := HJ16.out; first | omega | exact Nat.le_refl _⟩, ⟨sqR HO_16.out⟩, ⟨sqR HO_17.out⟩, ⟨sqB⟩⟩
 case rest =>
  clear HC8
  try clear c1
  try clear c2
  try clear p2
  try clear c3
  try clear c4
  try clear c5
  try clear p6
  try clear c12
  try clear c12b0
  try clear c12b1
  try clear c12b2
  try clear c16
  try clear c18
  try clear c19
  try clear c20
  try clear c20b0
  try clear c20b1
  try clear c20b2
  try clear c21
  try clear c23
  try clear c23b0
  try clear c23b1
  try clear c23b2
  try clear c26
  try clear c27
  try clear c28
  try clear c29
  try clear c29b0
  try clear c29b1
  try clear c29b2
  try clear c32
  try clear c32b0
  try clear c32b1
  try clear c32b2
  try clear c33
  try clear p2
  try clear p6
  obtain ⟨kq, HA, HJ7, HO_16, HO_17, HB⟩ := hcut
  cases kq with
  | zero => exact absurd HA.out (by simp [endonymlaw2_against.j2])
  | succ kj7 =>
   have H := HA.out
   clear HA
   simp only [endonymlaw2_against.j2] at H
   by_cases c37 : t574 = true
   ·
    subst c37
    have H1 : ((endonymref2_Cmp.f kj7 t587 t584).bind fun t590 => (some t590)) = some r := by rw [if_pos rfl] at H; exact H
    clear H
    have H := H1
    clear H1
    replace H := Option.bind_eq_some_iff.mp H
    obtain ⟨t590, A380, H⟩ := H
    try dsimp only at H
    have A38 := Aside0.mk A380
    clear A380
    obtain rfl := Option.some.inj H
    obtain ⟨Ao39, co39, eo39⟩ := Kd.R_slice HO_17.out
    subst eo39
    obtain ⟨Ao40, co40, eo40⟩ := Kd.R_slice HO_16.out
    subst eo40
    go_wp2_with (first | ((with_reducible refine gate_callee (f := 51) rfl ?_); refine goesL_ (some 97) rfl rfl Tryd.func51 (by kernel_rfl) rfl #[.slice Ao39 t587.length co39, .slice Ao40 t584.length co40] rfl sqA ?_; (with_reducible refine (endonymref2_Cmp.calls kj7 _ _ t587 _ _ t584 t590 _ ?side1 ?side2 ?side3 ?side4 A38.out).mono ?_); (case side1 => repeat (first | exact (Kd.R_reads' HO_17.out).2.2 | (with_reducible refine Kd.C_alloc ?_ _) | (with_reducible refine Kd.C_drewN ?_ _) | (with_reducible refine Kd.C_drew ?_))); (case side2 => exact (Kd.R_reads' HO_17.out).2.1); (case side3 => repeat (first | exact (Kd.R_reads' HO_16.out).2.2 | (with_reducible refine Kd.C_alloc ?_ _) | (with_reducible refine Kd.C_drewN ?_ _) | (with_reducible refine Kd.C_drew ?_))); (case side4 => exact (Kd.R_reads' HO_16.out).2.1); rintro e w' ⟨rfl, ⟨nd, rfl⟩⟩; refine ⟨_, rfl, ?_⟩))
    go_ret
    exact ⟨by first | rfl | (simp [errW_none, errW_some] <;> rfl) | (simp only [← hji5]; first | rfl | (simp [errW_none, errW_some] <;> rfl)) | (simp [*, errW_none, errW_some] <;> rfl), sqB⟩
   ·
    replace c37 := Bool.eq_false_iff.mpr c37
    subst c37
    have H1 : ((endonymref2_Cmp.f kj7 t584 t587).bind fun t591 => (some t591)) = some r := by rw [if_neg (show ¬ (false = true) by decide)] at H; exact H
    clear H
    have H := H1
    clear H1
    replace H := Option.bind_eq_some_iff.mp H
    obtain ⟨t591, A410, H⟩ := H
    try dsimp only at H
    have A41 := Aside0.mk A410
    clear A410
    obtain rfl := Option.some.inj H
    obtain ⟨Ao42, co42, eo42⟩ := Kd.R_slice HO_16.out
    subst eo42
    obtain ⟨Ao43, co43, eo43⟩ := Kd.R_slice HO_17.out
    subst eo43
    go_wp2_with (first | ((with_reducible refine gate_callee (f := 51) rfl ?_); refine goesL_ (some 100) rfl rfl Tryd.func51 (by kernel_rfl) rfl #[.slice Ao42 t584.length co42, .slice Ao43 t587.length co43] rfl sqA ?_; (with_reducible refine (endonymref2_Cmp.calls kj7 _ _ t584 _ _ t587 t591 _ ?side1 ?side2 ?side3 ?side4 A41.out).mono ?_); (case side1 => repeat (first | exact (Kd.R_reads' HO_16.out).2.2 | (with_reducible refine Kd.C_alloc ?_ _) | (with_reducible refine Kd.C_drewN ?_ _) | (with_reducible refine Kd.C_drew ?_))); (case side2 => exact (Kd.R_reads' HO_16.out).2.1); (case side3 => repeat (first | exact (Kd.R_reads' HO_17.out).2.2 | (with_reducible refine Kd.C_alloc ?_ _) | (with_reducible refine Kd.C_drewN ?_ _) | (with_reducible refine Kd.C_drew ?_))); (case side4 => exact (Kd.R_reads' HO_17.out).2.1); rintro e w' ⟨rfl, ⟨nd, rfl⟩⟩; refine ⟨_, rfl, ?_⟩))
    go_ret
    exact ⟨by first | rfl | (simp [errW_none, errW_some] <;> rfl) | (simp only [← hji5]; first | rfl | (simp [errW_none, errW_some] <;> rfl)) | (simp [*, errW_none, errW_some] <;> rfl), sqB⟩

end Go.Proofs.YtfmjdoofopamkaaDoor.W
