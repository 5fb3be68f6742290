-- written by wip/pp.py of this session (the kit's print with patches); checked by Lean alone
import Derived.Test.YtplnakmpogepmabAx0
import Derived.Test.YtplnakmpogepmabAx4
namespace Go.Proofs.Ytplnakmpogepmab.A
open Go.RowKit Go.Proofs.YtplnakmpogepmabW.PrintWords Go.Proofs.YtplnakmpogepmabW.PrintLast Go.Proofs.YtplnakmpogepmabW.PrintMore
attribute [local go_sem] max2_int min2_int max_two min_two max_three min_three max_four min_four   -- for this text's walks alone
set_option linter.unusedVariables false
set_option linter.unusedSimpArgs false

/-! ### endonymref5_Words: function 11 -/
mutual
def endonymref5_Words.j1 : Nat → ByteArray → Int → Option ((List (S48)) × Int)
  | 0, _, _ => none
  | k + 1, x0, x4 => endonymref5_Words.l1 k x0 x4 ([] : List (S48)) 0
def endonymref5_Words.l1 : Nat → ByteArray → Int → List (S48) → Int → Option ((List (S48)) × Int)
  | 0, _, _, _, _ => none
  | k + 1, x0, x4, x5, x6 => if x6 < x4 then (if 0 ≤ x6 then (if x6 < (x0.size : Int) then ((endonymref5_blank.f (bt x0 x6)).bind fun t147 => (if t147 = true then (endonymref5_Words.l1 k x0 x4 x5 (wrap64 (x6 + 1))) else (endonymref5_Words.l2 k x0 x4 x5 x6 x6))) else (none)) else (none)) else (some (x5, x4))
def endonymref5_Words.l2 : Nat → ByteArray → Int → List (S48) → Int → Int → Option ((List (S48)) × Int)
  | 0, _, _, _, _, _ => none
  | k + 1, x0, x4, x5, x6, x7 => if x6 < x4 then (if 0 ≤ x6 then (if x6 < (x0.size : Int) then ((endonymref5_blank.f (bt x0 x6)).bind fun t148 => (if t148 = true then (if 0 ≤ x7 then (if x7 ≤ x6 then (if x6 ≤ (x0.size : Int) then (if x5.length < 5864062014805 then (endonymref5_Words.l1 k x0 x4 (x5 ++ [(⟨x0.extract (x7 : Int).toNat (x6 : Int).toNat, x7⟩ : S48)]) x6) else (none)) else (none)) else (none)) else (none)) else (endonymref5_Words.l2 k x0 x4 x5 (wrap64 (x6 + 1)) x7))) else (none)) else (none)) else (if 0 ≤ x7 then (if x7 ≤ x6 then (if x6 ≤ (x0.size : Int) then (if x5.length < 5864062014805 then (endonymref5_Words.l1 k x0 x4 (x5 ++ [(⟨x0.extract (x7 : Int).toNat (x6 : Int).toNat, x7⟩ : S48)]) x6) else (none)) else (none)) else (none)) else (none))
def endonymref5_Words.l0 : Nat → ByteArray → Int → Option ((List (S48)) × Int)
  | 0, _, _ => none
  | k + 1, x0, x4 => if x4 < (x0.size : Int) then (if 0 ≤ x4 then (if (bt x0 x4) = 35 then (endonymref5_Words.j1 k x0 x4) else (endonymref5_Words.l0 k x0 (wrap64 (x4 + 1)))) else (none)) else (endonymref5_Words.j1 k x0 x4)
end
def endonymref5_Words.f (k : Nat) (a0 : ByteArray) : Option ((List (S48)) × Int) := endonymref5_Words.l0 k a0 0
theorem endonymref5_Words.mono_l : ∀ k, (∀ y0 y1, LeO (endonymref5_Words.j1 k y0 y1) (endonymref5_Words.j1 (k + 1) y0 y1)) ∧ (∀ y0 y1 y2 y3, LeO (endonymref5_Words.l1 k y0 y1 y2 y3) (endonymref5_Words.l1 (k + 1) y0 y1 y2 y3)) ∧ (∀ y0 y1 y2 y3 y4, LeO (endonymref5_Words.l2 k y0 y1 y2 y3 y4) (endonymref5_Words.l2 (k + 1) y0 y1 y2 y3 y4)) ∧ (∀ y0 y1, LeO (endonymref5_Words.l0 k y0 y1) (endonymref5_Words.l0 (k + 1) y0 y1))
  | 0 => ⟨fun _ _ r h => by simp [endonymref5_Words.j1] at h, fun _ _ _ _ r h => by simp [endonymref5_Words.l1] at h, fun _ _ _ _ _ r h => by simp [endonymref5_Words.l2] at h, fun _ _ r h => by simp [endonymref5_Words.l0] at h⟩
  | k + 1 => by
    obtain ⟨ih0, ih1, ih2, ih3⟩ := endonymref5_Words.mono_l k
    refine ⟨?_, ?_, ?_, ?_⟩
    · intro y0 y1
      unfold endonymref5_Words.j1
      repeat' first
      | (with_reducible exact ih0 _ _)
      | (with_reducible exact ih1 _ _ _ _)
      | (with_reducible exact ih2 _ _ _ _ _)
      | (with_reducible exact ih3 _ _)
      | (with_reducible exact LeO.refl _)
      | (with_reducible exact LeO.none _)
      | (with_reducible refine LeO.ite ?_ ?_)
      | (with_reducible refine LeO.bind ?_ (fun _ => ?_))
      | exact ih0 _ _
      | exact ih1 _ _ _ _
      | exact ih2 _ _ _ _ _
      | exact ih3 _ _
      | exact LeO.none _
      | refine LeO.ite ?_ ?_
      | refine LeO.bind ?_ (fun _ => ?_)
    · intro y0 y1 y2 y3
      unfold endonymref5_Words.l1
      repeat' first
      | (with_reducible exact ih0 _ _)
      | (with_reducible exact ih1 _ _ _ _)
      | (with_reducible exact ih2 _ _ _ _ _)
      | (with_reducible exact ih3 _ _)
      | (with_reducible exact LeO.refl _)
      | (with_reducible exact LeO.none _)
      | (with_reducible refine LeO.ite ?_ ?_)
      | (with_reducible refine LeO.bind ?_ (fun _ => ?_))
      | exact ih0 _ _
      | exact ih1 _ _ _ _
      | exact ih2 _ _ _ _ _
      | exact ih3 _ _
      | exact LeO.none _
      | refine LeO.ite ?_ ?_
      | refine LeO.bind ?_ (fun _ => ?_)
    · intro y0 y1 y2 y3 y4
      unfold endonymref5_Words.l2
      repeat' first
      | (with_reducible exact ih0 _ _)
      | (with_reducible exact ih1 _ _ _ _)
      | (with_reducible exact ih2 _ _ _ _ _)
      | (with_reducible exact ih3 _ _)
      | (with_reducible exact LeO.refl _)
      | (with_reducible exact LeO.none _)
      | (with_reducible refine LeO.ite ?_ ?_)
      | (with_reducible refine LeO.bind ?_ (fun _ => ?_))
      | exact ih0 _ _
      | exact ih1 _ _ _ _
      | exact ih2 _ _ _ _ _
      | exact ih3 _ _
      | exact LeO.none _
      | refine LeO.ite ?_ ?_
      | refine LeO.bind ?_ (fun _ => ?_)
    · intro y0 y1
      unfold endonymref5_Words.l0
      repeat' first
      | (with_reducible exact ih0 _ _)
      | (with_reducible exact ih1 _ _ _ _)
      | (with_reducible exact ih2 _ _ _ _ _)
      | (with_reducible exact ih3 _ _)
      | (with_reducible exact LeO.refl _)
      | (with_reducible exact LeO.none _)
      | (with_reducible refine LeO.ite ?_ ?_)
      | (with_reducible refine LeO.bind ?_ (fun _ => ?_))
      | exact ih0 _ _
      | exact ih1 _ _ _ _
      | exact ih2 _ _ _ _ _
      | exact ih3 _ _
      | exact LeO.none _
      | refine LeO.ite ?_ ?_
      | refine LeO.bind ?_ (fun _ => ?_)
theorem endonymref5_Words.mono : ∀ a0 k, LeO (endonymref5_Words.f k a0) (endonymref5_Words.f (k + 1) a0) := by
  intro a0 k
  obtain ⟨ih0, ih1, ih2, ih3⟩ := endonymref5_Words.mono_l k
  unfold endonymref5_Words.f
  repeat' first
      | (with_reducible exact ih0 _ _)
      | (with_reducible exact ih1 _ _ _ _)
      | (with_reducible exact ih2 _ _ _ _ _)
      | (with_reducible exact ih3 _ _)
      | (with_reducible exact LeO.refl _)
      | (with_reducible exact LeO.none _)
      | (with_reducible refine LeO.ite ?_ ?_)
      | (with_reducible refine LeO.bind ?_ (fun _ => ?_))
      | exact ih0 _ _
      | exact ih1 _ _ _ _
      | exact ih2 _ _ _ _ _
      | exact ih3 _ _
      | exact LeO.none _
      | refine LeO.ite ?_ ?_
      | refine LeO.bind ?_ (fun _ => ?_)
set_option maxHeartbeats 8000000 in
set_option maxRecDepth 100000 in
theorem endonymref5_Words.calls (k : Nat) (a0 : ByteArray) (r1 : List (S48)) (r2 : Int) (w : World) (h : endonymref5_Words.f k a0 = some (r1, r2)) :
    Calls Try.prog 11 #[.string a0] w fun e w' => ∃ v0_ : Value, e = .returned (.tuple #[v0_, .int .i64 r2]) ∧ Kd.R k48 48 w' w.heap.size (fun _ => True) v0_ r1 ∧ Below w.heap.size w w' := by
  have hu48 := Try.underlying48
  have HB := Aside0.mk (Below.refl w.heap.size w)
  have H : (endonymref5_Words.l0 k a0 0) = some (r1, r2) := h
  clear h
  have HC2 := Aside0.mk H
  clear H
  go_enter Try.func11, Try.ntmps11
  go_upto_block 0 with (fail)
  go_cut [4] (fun v4 wc => ∃ (kq : Nat) (x4_1 : Int), v4 = .int .i64 x4_1 ∧ Aside0 (endonymref5_Words.j1 kq a0 x4_1 = some (r1, r2)) ∧ Aside0 (kq ≤ k) ∧ Aside0 (Below w.heap.size w wc))
  case first =>
    have H := HC2.out
    clear HC2
    have H' := Aside0.mk H
    clear H
    go_wp2
    go_loopg [4] k (fun kq v4 w' => ∃ (x4_1 : Int), v4 = .int .i64 x4_1 ∧ Aside0 (endonymref5_Words.l0 kq a0 x4_1 = some (r1, r2)) ∧ Aside0 (kq ≤ k) ∧ Aside0 (Below w.heap.size w w'))
    case atStart => exact ⟨(0), (by first | rfl | (simp; done) | (simp [*]; done)), H', ⟨Nat.le_refl _⟩, ⟨by repeat (first | (with_reducible first | exact HB.out | apply below_alloc | apply pw_below_drewN | apply below_drew1) | exact HB.out)⟩⟩
    case round =>
      clear H'
      try clear c1
      try clear p2
      obtain ⟨x4_1, rfl, HA, HK1, HB⟩ := hrel
      cases gk with
      | zero => exact absurd HA.out (by simp [endonymref5_Words.l0])
      | succ k1 =>
        have H := HA.out
        clear HA
        simp only [endonymref5_Words.l0] at H
        by_cases c3 : x4_1 < (a0.size : Int)
        · rw [if_pos c3] at H
          have c3b0 : decide (x4_1 < (a0.size : Int)) = true := decide_eq_true c3
          clear c3
          (first | rw [c3b0] | (simp only [i64_w, i32_w]; rw [c3b0]) | skip)
          by_cases c4 : 0 ≤ x4_1
          · rw [if_pos c4] at H
            have c4b0 : decide (0 ≤ x4_1) = true := decide_eq_true c4
            clear c4
            by_cases c6 : (bt a0 x4_1) = 35
            · rw [if_pos c6] at H
              have c6b0 : ((bt a0 x4_1) == 35) = true := beq_iff_eq.mpr c6
              have c6b1 : ((bt a0 x4_1) != 35) = false := bne_eq_false_iff_eq.mpr c6
              clear c6
              have H' := Aside0.mk H
              clear H
              have p5 : 0 ≤ (x4_1 : Int) := of_decide_eq_true (by first | (with_reducible assumption) | assumption)
              have q5 : x4_1 < (a0.size : Int) := of_decide_eq_true (by first | (with_reducible assumption) | assumption)
              have hx5 := bt_at a0 x4_1
              replace p5 := eq_true p5
              replace q5 := eq_true q5
              go_wp2
              go_meet
              case rel => exact ⟨_, (x4_1), (by first | rfl | (simp; done) | (simp [*]; done)), H', ⟨by have := HK1.out; first | omega | exact Nat.le_refl _⟩, ⟨by repeat (first | (with_reducible first | exact HB.out | apply below_alloc | apply pw_below_drewN | apply below_drew1) | exact HB.out)⟩⟩
            · rw [if_neg c6] at H
              have c6b0 : ((bt a0 x4_1) == 35) = false := beq_eq_false_iff_ne.mpr c6
              have c6b1 : ((bt a0 x4_1) != 35) = true := bne_iff_ne.mpr c6
              have H' := Aside0.mk H
              clear H
              have p5 : 0 ≤ (x4_1 : Int) := of_decide_eq_true (by first | (with_reducible assumption) | assumption)
              have q5 : x4_1 < (a0.size : Int) := of_decide_eq_true (by first | (with_reducible assumption) | assumption)
              have hx5 := bt_at a0 x4_1
              replace p5 := eq_true p5
              replace q5 := eq_true q5
              go_wp2
              go_roundg k1
              case measure => have := HK1.out; omega
              case rel => exact ⟨(wrap64 (x4_1 + 1)), (by first | rfl | (simp; done) | (simp [*]; done)), H', ⟨by have := HK1.out; omega⟩, ⟨by repeat (first | (with_reducible first | exact HB.out | apply below_alloc | apply pw_below_drewN | apply below_drew1) | exact HB.out)⟩⟩
          · rw [if_neg c4] at H
            exact absurd H (by simp)
        · rw [if_neg c3] at H
          have c3b0 : decide (x4_1 < (a0.size : Int)) = false := decide_eq_false c3
          clear c3
          (first | rw [c3b0] | (simp only [i64_w, i32_w]; rw [c3b0]) | skip)
          have H' := Aside0.mk H
          clear H
          go_wp2
          go_meet
          case rel => exact ⟨_, (x4_1), (by first | rfl | (simp; done) | (simp [*]; done)), H', ⟨by have := HK1.out; first | omega | exact Nat.le_refl _⟩, ⟨by repeat (first | (with_reducible first | exact HB.out | apply below_alloc | apply pw_below_drewN | apply below_drew1) | exact HB.out)⟩⟩
  case rest =>
    clear HC2
    try clear c1
    try clear p2
    try clear c3
    try clear c3b0
    try clear c4
    try clear c4b0
    try clear p5
    try clear q5
    try clear hx5
    try clear c6
    try clear c6b0
    try clear c6b1
    try clear p6
    try clear p2
    try clear p5
    try clear q5
    obtain ⟨kq, x4_1, rfl, HA, HJ1, HB⟩ := hcut
    cases kq with
    | zero => exact absurd HA.out (by simp [endonymref5_Words.j1])
    | succ kj1 =>
      have H := HA.out
      clear HA
      simp only [endonymref5_Words.j1] at H
      have H' := Aside0.mk H
      clear H
      go_wp2
      go_loopg [5, 6] kj1 (fun kq v5 v6 w' => ∃ (x5_2 : List (S48)) (x6_2 : Int), v6 = .int .i64 x6_2 ∧ Aside0 (endonymref5_Words.l1 kq a0 x4_1 x5_2 x6_2 = some (r1, r2)) ∧ Aside0 (kq ≤ kj1) ∧ Aside0 (Kd.R k48 48 w' w.heap.size (fun _ => True) v5 x5_2) ∧ Aside0 (Below w.heap.size w w'))
      case atStart => exact ⟨(([] : List (S48))), (0), (by first | rfl | (simp; done) | (simp [*]; done)), H', ⟨Nat.le_refl _⟩, ⟨by first | exact Kd.R_nil _ _ _ _ _ | exact Kd.N_nil _ _ _ _ _ | exact Kd.V_nil _ _ _ _ _ | exact Kd.Q_nil _ _ _ _ _ | exact Kd.S_nil _ _ _ _ _⟩, ⟨by repeat (first | (with_reducible first | exact HB.out | apply below_alloc | apply pw_below_drewN | apply below_drew1) | exact HB.out)⟩⟩
      case round =>
        clear H'
        try clear c1
        try clear p2
        try clear c3
        try clear c3b0
        try clear c4
        try clear c4b0
        try clear p5
        try clear q5
        try clear hx5
        try clear c6
        try clear c6b0
        try clear c6b1
        try clear p6
        try clear p2
        try clear p5
        try clear p6
        try clear q5
        obtain ⟨x5_2, x6_2, rfl, HA, HK2, HO_5, HB⟩ := hrel
        cases gk with
        | zero => exact absurd HA.out (by simp [endonymref5_Words.l1])
        | succ k2 =>
          have H := HA.out
          clear HA
          simp only [endonymref5_Words.l1] at H
          by_cases c7 : x6_2 < x4_1
          · rw [if_pos c7] at H
            have c7b0 : decide (x6_2 < x4_1) = true := decide_eq_true c7
            clear c7
            by_cases c8 : 0 ≤ x6_2
            · rw [if_pos c8] at H
              have c8b0 : decide (0 ≤ x6_2) = true := decide_eq_true c8
              clear c8
              by_cases c9 : x6_2 < (a0.size : Int)
              · rw [if_pos c9] at H
                have c9b0 : decide (x6_2 < (a0.size : Int)) = true := decide_eq_true c9
                clear c9
                replace H := Option.bind_eq_some_iff.mp H
                obtain ⟨t147, A110, H⟩ := H
                replace H : (if t147 = true then (endonymref5_Words.l1 k2 a0 x4_1 x5_2 (wrap64 (x6_2 + 1))) else (endonymref5_Words.l2 k2 a0 x4_1 x5_2 x6_2 x6_2)) = some (r1, r2) := H
                have A11 := Aside0.mk A110
                clear A110
                by_cases c12 : t147 = true
                · subst c12
                  have H1 : (endonymref5_Words.l1 k2 a0 x4_1 x5_2 (wrap64 (x6_2 + 1))) = some (r1, r2) := by rw [if_pos rfl] at H; exact H
                  clear H
                  have H := H1
                  clear H1
                  have H' := Aside0.mk H
                  clear H
                  have p10 : 0 ≤ (x6_2 : Int) := of_decide_eq_true (by first | (with_reducible assumption) | assumption)
                  have q10 : x6_2 < (a0.size : Int) := of_decide_eq_true (by first | (with_reducible assumption) | assumption)
                  have hx10 := bt_at a0 x6_2
                  replace p10 := eq_true p10
                  replace q10 := eq_true q10
                  go_wp2_with (first | ((with_reducible refine gate_callee (f := 22) rfl ?_); refine goesL_ (some 26) rfl rfl Try.func22 (by kernel_rfl) rfl #[.int .u8 (bt a0 x6_2)] rfl (by (try simp only [List.map_toArray, List.map_cons, List.map_nil]); first | done | rfl | (simp only [List.length_drop, List.length_take]; rfl)) ?_; (with_reducible refine (endonymref5_blank.calls (bt a0 x6_2) true _ A11.out).mono ?_); rintro e w' ⟨rfl, ⟨nd, rfl⟩⟩; refine ⟨_, rfl, ?_⟩))
                  go_roundg k2
                  case measure => have := HJ1.out; have := HK2.out; omega
                  case rel => exact ⟨(x5_2), (wrap64 (x6_2 + 1)), (by first | rfl | (simp; done) | (simp [*]; done)), H', ⟨by have := HJ1.out; have := HK2.out; omega⟩, ⟨by (with_reducible repeat (first | apply Kd.R_alloc | apply Kd.R_drewN | apply Kd.R_drew)); exact HO_5.out⟩, ⟨by repeat (first | (with_reducible first | exact HB.out | apply below_alloc | apply pw_below_drewN | apply below_drew1) | exact HB.out)⟩⟩
                · replace c12 := Bool.eq_false_iff.mpr c12
                  subst c12
                  have H1 : (endonymref5_Words.l2 k2 a0 x4_1 x5_2 x6_2 x6_2) = some (r1, r2) := by rw [if_neg (show ¬ (false = true) by decide)] at H; exact H
                  clear H
                  have H := H1
                  clear H1
                  have H' := Aside0.mk H
                  clear H
                  have p10 : 0 ≤ (x6_2 : Int) := of_decide_eq_true (by first | (with_reducible assumption) | assumption)
                  have q10 : x6_2 < (a0.size : Int) := of_decide_eq_true (by first | (with_reducible assumption) | assumption)
                  have hx10 := bt_at a0 x6_2
                  replace p10 := eq_true p10
                  replace q10 := eq_true q10
                  go_wp2_with (first | ((with_reducible refine gate_callee (f := 22) rfl ?_); refine goesL_ (some 26) rfl rfl Try.func22 (by kernel_rfl) rfl #[.int .u8 (bt a0 x6_2)] rfl (by (try simp only [List.map_toArray, List.map_cons, List.map_nil]); first | done | rfl | (simp only [List.length_drop, List.length_take]; rfl)) ?_; (with_reducible refine (endonymref5_blank.calls (bt a0 x6_2) false _ A11.out).mono ?_); rintro e w' ⟨rfl, ⟨nd, rfl⟩⟩; refine ⟨_, rfl, ?_⟩))
                  go_loopg [6] k2 (fun kq v6 w' => ∃ (x6_3 : Int), v6 = .int .i64 x6_3 ∧ Aside0 (endonymref5_Words.l2 kq a0 x4_1 x5_2 x6_3 x6_2 = some (r1, r2)) ∧ Aside0 (kq ≤ k2) ∧ Aside0 (Kd.R k48 48 w' w.heap.size (fun _ => True) u5 x5_2) ∧ Aside0 (Below w.heap.size w w'))
                  case atStart => exact ⟨(x6_2), (by first | rfl | (simp; done) | (simp [*]; done)), H', ⟨Nat.le_refl _⟩, ⟨by (with_reducible repeat (first | apply Kd.R_alloc | apply Kd.R_drewN | apply Kd.R_drew)); exact HO_5.out⟩, ⟨by repeat (first | (with_reducible first | exact HB.out | apply below_alloc | apply pw_below_drewN | apply below_drew1) | exact HB.out)⟩⟩
                  case round =>
                    clear H'
                    try clear c1
                    try clear p1
                    try clear q1
                    try clear hx1
                    try clear c2
                    try clear p2
                    try clear c3
                    try clear c3b0
                    try clear c4
                    try clear c4b0
                    try clear p5
                    try clear q5
                    try clear hx5
                    try clear c6
                    try clear c6b0
                    try clear c6b1
                    try clear p6
                    try clear c7
                    try clear c7b0
                    try clear c8
                    try clear c8b0
                    try clear c9
                    try clear c9b0
                    try clear p10
                    try clear q10
                    try clear hx10
                    try clear c11
                    try clear c12
                    try clear p10
                    try clear p2
                    try clear p5
                    try clear p6
                    try clear q10
                    try clear q5
                    obtain ⟨x6_3, rfl, HA, HK3, HO_5, HB⟩ := hrel
                    cases gk with
                    | zero => exact absurd HA.out (by simp [endonymref5_Words.l2])
                    | succ k3 =>
                      have H := HA.out
                      clear HA
                      simp only [endonymref5_Words.l2] at H
                      by_cases c13 : x6_3 < x4_1
                      · rw [if_pos c13] at H
                        have c13b0 : decide (x6_3 < x4_1) = true := decide_eq_true c13
                        clear c13
                        by_cases c14 : 0 ≤ x6_3
                        · rw [if_pos c14] at H
                          have c14b0 : decide (0 ≤ x6_3) = true := decide_eq_true c14
                          clear c14
                          by_cases c15 : x6_3 < (a0.size : Int)
                          · rw [if_pos c15] at H
                            have c15b0 : decide (x6_3 < (a0.size : Int)) = true := decide_eq_true c15
                            clear c15
                            replace H := Option.bind_eq_some_iff.mp H
                            obtain ⟨t148, A170, H⟩ := H
                            replace H : (if t148 = true then (if 0 ≤ x6_2 then (if x6_2 ≤ x6_3 then (if x6_3 ≤ (a0.size : Int) then (if x5_2.length < 5864062014805 then (endonymref5_Words.l1 k3 a0 x4_1 (x5_2 ++ [(⟨a0.extract (x6_2 : Int).toNat (x6_3 : Int).toNat, x6_2⟩ : S48)]) x6_3) else (none)) else (none)) else (none)) else (none)) else (endonymref5_Words.l2 k3 a0 x4_1 x5_2 (wrap64 (x6_3 + 1)) x6_2)) = some (r1, r2) := H
                            have A17 := Aside0.mk A170
                            clear A170
                            by_cases c18 : t148 = true
                            · subst c18
                              have H1 : (if 0 ≤ x6_2 then (if x6_2 ≤ x6_3 then (if x6_3 ≤ (a0.size : Int) then (if x5_2.length < 5864062014805 then (endonymref5_Words.l1 k3 a0 x4_1 (x5_2 ++ [(⟨a0.extract (x6_2 : Int).toNat (x6_3 : Int).toNat, x6_2⟩ : S48)]) x6_3) else (none)) else (none)) else (none)) else (none)) = some (r1, r2) := by rw [if_pos rfl] at H; exact H
                              clear H
                              have H := H1
                              clear H1
                              by_cases c19 : 0 ≤ x6_2
                              · rw [if_pos c19] at H
                                have c19b0 := eq_true c19
                                have c19b1 : decide (0 ≤ x6_2) = true := decide_eq_true c19
                                clear c19
                                by_cases c20 : x6_2 ≤ x6_3
                                · rw [if_pos c20] at H
                                  have c20b0 := eq_true c20
                                  have c20b1 : decide (x6_2 ≤ x6_3) = true := decide_eq_true c20
                                  clear c20
                                  by_cases c21 : x6_3 ≤ (a0.size : Int)
                                  · rw [if_pos c21] at H
                                    have c21b0 := eq_true c21
                                    have c21b1 : decide (x6_3 ≤ (a0.size : Int)) = true := decide_eq_true c21
                                    clear c21
                                    by_cases c22 : x5_2.length < 5864062014805
                                    · rw [if_pos c22] at H
                                      have LMc22 := Aside0.mk c22
                                      clear c22
                                      obtain ⟨y149, hy149⟩ : ∃ y_ : List (S48), y_ = (x5_2 ++ [(⟨a0.extract (x6_2 : Int).toNat (x6_3 : Int).toNat, x6_2⟩ : S48)]) := ⟨_, rfl⟩
                                      replace H : (endonymref5_Words.l1 k3 a0 x4_1 y149 x6_3) = some (r1, r2) := by first | (rw [hy149]; with_reducible exact H) | (have H2_ := (Option.bind_some _ _).symm.trans H; rw [hy149]; with_reducible exact H2_) | (have H2_ := (Option.bind_some _ _).symm.trans H; with_reducible exact H2_) | with_reducible exact H | (rw [hy149]; exact H) | exact H
                                      have Ny149 := Aside0.mk hy149
                                      clear hy149
                                      have H' := Aside0.mk H
                                      clear H
                                      have p16 : 0 ≤ (x6_3 : Int) := of_decide_eq_true (by first | (with_reducible assumption) | assumption)
                                      have q16 : x6_3 < (a0.size : Int) := of_decide_eq_true (by first | (with_reducible assumption) | assumption)
                                      have hx16 := bt_at a0 x6_3
                                      replace p16 := eq_true p16
                                      replace q16 := eq_true q16
                                      go_wp2_with (first | (go_at_call 22; (with_reducible refine (endonymref5_blank.calls (bt a0 x6_3) true _ A17.out).mono ?_); rintro e w' ⟨rfl, ⟨nd, rfl⟩⟩) | ((with_reducible refine gate_builtin (b := .append) (xs := #[.tmp 42, .tmp 49]) rfl ?_); at_builtin; refine Kd.R_append k48 (w0 := w) w.heap.size rfl (.tmp 42) (.tmp 49) 29 48 (.agg #[(.string ⟨#[]⟩), (.int .i64 0)]) 24 rfl Try.underlying29 info48 rfl (by decide) (by omega) u5 x5_2 (⟨a0.extract (x6_2 : Int).toNat (x6_3 : Int).toNat, x6_2⟩ : S48) [.string (a0.extract (x6_2 : Int).toNat (x6_3 : Int).toNat), .int .i64 x6_2] (fun _ => True) (fun _ => False) rfl rfl ?aP (fun _ hk => hk.elim) ?aF ?aO ?aB ?aS ?aL ?_; (case aP => exact k48_mkM _ _ _ (⟨a0.extract (x6_2 : Int).toNat (x6_3 : Int).toNat, x6_2⟩ : S48)); (case aB => exact (by repeat (first | (with_reducible first | exact HB.out | apply below_alloc | apply pw_below_drewN | apply below_drew1) | exact HB.out))); (case aF => exact (fun _ _ => trivial)); (case aO => exact (by (with_reducible repeat (first | apply Kd.R_alloc | apply Kd.R_drewN | apply Kd.R_drew)); exact HO_5.out)); (case aS => exact (below_size (by repeat (first | (with_reducible first | exact HB.out | apply below_alloc | apply pw_below_drewN | apply below_drew1) | exact HB.out)))); (case aL => have := LMc22.out; omega); intro v150 w23 ho hb hg hat; rw [← Ny149.out] at ho; have n0_ := Aside0.mk (hb); have n1_ := Aside0.mk (ho); clear HB; clear HO_5; have HB := n0_; have HO151 := n1_; clear n0_ n1_; clear ho hb hg hat))
                                      go_roundg k3
                                      case measure => have := HJ1.out; have := HK2.out; have := HK3.out; omega
                                      case rel => exact ⟨(y149), (x6_3), (by first | rfl | (simp; done) | (simp [*]; done)), H', ⟨by have := HJ1.out; have := HK2.out; have := HK3.out; omega⟩, ⟨by (with_reducible repeat (first | apply Kd.R_alloc | apply Kd.R_drewN | apply Kd.R_drew)); exact HO151.out⟩, ⟨by repeat (first | (with_reducible first | exact HB.out | apply below_alloc | apply pw_below_drewN | apply below_drew1) | exact HB.out)⟩⟩
                                    · rw [if_neg c22] at H
                                      exact absurd H (by simp)
                                  · rw [if_neg c21] at H
                                    exact absurd H (by simp)
                                · rw [if_neg c20] at H
                                  exact absurd H (by simp)
                              · rw [if_neg c19] at H
                                exact absurd H (by simp)
                            · replace c18 := Bool.eq_false_iff.mpr c18
                              subst c18
                              have H1 : (endonymref5_Words.l2 k3 a0 x4_1 x5_2 (wrap64 (x6_3 + 1)) x6_2) = some (r1, r2) := by rw [if_neg (show ¬ (false = true) by decide)] at H; exact H
                              clear H
                              have H := H1
                              clear H1
                              have H' := Aside0.mk H
                              clear H
                              have p16 : 0 ≤ (x6_3 : Int) := of_decide_eq_true (by first | (with_reducible assumption) | assumption)
                              have q16 : x6_3 < (a0.size : Int) := of_decide_eq_true (by first | (with_reducible assumption) | assumption)
                              have hx16 := bt_at a0 x6_3
                              replace p16 := eq_true p16
                              replace q16 := eq_true q16
                              go_wp2_with (first | (go_at_call 22; (with_reducible refine (endonymref5_blank.calls (bt a0 x6_3) false _ A17.out).mono ?_); rintro e w' ⟨rfl, ⟨nd, rfl⟩⟩))
                              go_roundg k3
                              case measure => have := HJ1.out; have := HK2.out; have := HK3.out; omega
                              case rel => exact ⟨(wrap64 (x6_3 + 1)), (by first | rfl | (simp; done) | (simp [*]; done)), H', ⟨by have := HJ1.out; have := HK2.out; have := HK3.out; omega⟩, ⟨by (with_reducible repeat (first | apply Kd.R_alloc | apply Kd.R_drewN | apply Kd.R_drew)); exact HO_5.out⟩, ⟨by repeat (first | (with_reducible first | exact HB.out | apply below_alloc | apply pw_below_drewN | apply below_drew1) | exact HB.out)⟩⟩
                          · rw [if_neg c15] at H
                            exact absurd H (by simp)
                        · rw [if_neg c14] at H
                          exact absurd H (by simp)
                      · rw [if_neg c13] at H
                        have c13b0 : decide (x6_3 < x4_1) = false := decide_eq_false c13
                        clear c13
                        by_cases c24 : 0 ≤ x6_2
                        · rw [if_pos c24] at H
                          have c24b0 := eq_true c24
                          have c24b1 : decide (0 ≤ x6_2) = true := decide_eq_true c24
                          clear c24
                          by_cases c25 : x6_2 ≤ x6_3
                          · rw [if_pos c25] at H
                            have c25b0 := eq_true c25
                            have c25b1 : decide (x6_2 ≤ x6_3) = true := decide_eq_true c25
                            clear c25
                            by_cases c26 : x6_3 ≤ (a0.size : Int)
                            · rw [if_pos c26] at H
                              have c26b0 := eq_true c26
                              have c26b1 : decide (x6_3 ≤ (a0.size : Int)) = true := decide_eq_true c26
                              clear c26
                              by_cases c27 : x5_2.length < 5864062014805
                              · rw [if_pos c27] at H
                                have LMc27 := Aside0.mk c27
                                clear c27
                                obtain ⟨y152, hy152⟩ : ∃ y_ : List (S48), y_ = (x5_2 ++ [(⟨a0.extract (x6_2 : Int).toNat (x6_3 : Int).toNat, x6_2⟩ : S48)]) := ⟨_, rfl⟩
                                replace H : (endonymref5_Words.l1 k3 a0 x4_1 y152 x6_3) = some (r1, r2) := by first | (rw [hy152]; with_reducible exact H) | (have H2_ := (Option.bind_some _ _).symm.trans H; rw [hy152]; with_reducible exact H2_) | (have H2_ := (Option.bind_some _ _).symm.trans H; with_reducible exact H2_) | with_reducible exact H | (rw [hy152]; exact H) | exact H
                                have Ny152 := Aside0.mk hy152
                                clear hy152
                                have H' := Aside0.mk H
                                clear H
                                go_wp2_with (first | ((with_reducible refine gate_builtin (b := .append) (xs := #[.tmp 42, .tmp 49]) rfl ?_); at_builtin; refine Kd.R_append k48 (w0 := w) w.heap.size rfl (.tmp 42) (.tmp 49) 29 48 (.agg #[(.string ⟨#[]⟩), (.int .i64 0)]) 24 rfl Try.underlying29 info48 rfl (by decide) (by omega) u5 x5_2 (⟨a0.extract (x6_2 : Int).toNat (x6_3 : Int).toNat, x6_2⟩ : S48) [.string (a0.extract (x6_2 : Int).toNat (x6_3 : Int).toNat), .int .i64 x6_2] (fun _ => True) (fun _ => False) rfl rfl ?aP (fun _ hk => hk.elim) ?aF ?aO ?aB ?aS ?aL ?_; (case aP => exact k48_mkM _ _ _ (⟨a0.extract (x6_2 : Int).toNat (x6_3 : Int).toNat, x6_2⟩ : S48)); (case aB => exact (by repeat (first | (with_reducible first | exact HB.out | apply below_alloc | apply pw_below_drewN | apply below_drew1) | exact HB.out))); (case aF => exact (fun _ _ => trivial)); (case aO => exact (by (with_reducible repeat (first | apply Kd.R_alloc | apply Kd.R_drewN | apply Kd.R_drew)); exact HO_5.out)); (case aS => exact (below_size (by repeat (first | (with_reducible first | exact HB.out | apply below_alloc | apply pw_below_drewN | apply below_drew1) | exact HB.out)))); (case aL => have := LMc27.out; omega); intro v153 w28 ho hb hg hat; rw [← Ny152.out] at ho; have n0_ := Aside0.mk (hb); have n1_ := Aside0.mk (ho); clear HB; clear HO_5; have HB := n0_; have HO154 := n1_; clear n0_ n1_; clear ho hb hg hat))
                                go_roundg k3
                                case measure => have := HJ1.out; have := HK2.out; have := HK3.out; omega
                                case rel => exact ⟨(y152), (x6_3), (by first | rfl | (simp; done) | (simp [*]; done)), H', ⟨by have := HJ1.out; have := HK2.out; have := HK3.out; omega⟩, ⟨by (with_reducible repeat (first | apply Kd.R_alloc | apply Kd.R_drewN | apply Kd.R_drew)); exact HO154.out⟩, ⟨by repeat (first | (with_reducible first | exact HB.out | apply below_alloc | apply pw_below_drewN | apply below_drew1) | exact HB.out)⟩⟩
                              · rw [if_neg c27] at H
                                exact absurd H (by simp)
                            · rw [if_neg c26] at H
                              exact absurd H (by simp)
                          · rw [if_neg c25] at H
                            exact absurd H (by simp)
                        · rw [if_neg c24] at H
                          exact absurd H (by simp)
              · rw [if_neg c9] at H
                exact absurd H (by simp)
            · rw [if_neg c8] at H
              exact absurd H (by simp)
          · rw [if_neg c7] at H
            have c7b0 : decide (x6_2 < x4_1) = false := decide_eq_false c7
            clear c7
            simp only [Option.some.injEq, Prod.mk.injEq] at H
            obtain ⟨rfl, rfl⟩ := H
            go_wp2
            go_ret2
            exact ⟨_, by first | rfl | (simp [errW_none, errW_some] <;> rfl) | (simp [*, errW_none, errW_some] <;> rfl), by (with_reducible repeat (first | apply Kd.R_alloc | apply Kd.R_drewN | apply Kd.R_drew)); exact HO_5.out, by repeat (first | (with_reducible first | exact HB.out | apply below_alloc | apply pw_below_drewN | apply below_drew1) | exact HB.out)⟩

/-! ### endonymlaw5_sameWords: function 12 -/
def endonymlaw5_sameWords.l0 : Nat → List (S34) → List (S48) → Int → Option (Bool)
  | 0, _, _, _ => none
  | k + 1, x0, x1, x5 => if x5 < (x0.length : Int) then (if 0 ≤ x5 then (if x5 < (x1.length : Int) then (if ((rd_T34 x0 x5).f0).toList = ((rd_T48 x1 x5).f0).toList then (if ((rd_T34 x0 x5).f1) = ((rd_T48 x1 x5).f1) then (endonymlaw5_sameWords.l0 k x0 x1 (wrap64 (x5 + 1))) else (some false)) else (some false)) else (none)) else (none)) else (some true)
def endonymlaw5_sameWords.f (k : Nat) (l0 : List (S34)) (l1 : List (S48)) : Option (Bool) := if (l0.length : Int) = (l1.length : Int) then (endonymlaw5_sameWords.l0 k l0 l1 0) else (some false)
theorem endonymlaw5_sameWords.mono_l : ∀ k, (∀ y0 y1 y2, LeO (endonymlaw5_sameWords.l0 k y0 y1 y2) (endonymlaw5_sameWords.l0 (k + 1) y0 y1 y2))
  | 0 => fun _ _ _ r h => by simp [endonymlaw5_sameWords.l0] at h
  | k + 1 => by
    have ih0 := endonymlaw5_sameWords.mono_l k
    · intro y0 y1 y2
      unfold endonymlaw5_sameWords.l0
      repeat' first
      | (with_reducible exact ih0 _ _ _)
      | (with_reducible exact LeO.refl _)
      | (with_reducible exact LeO.none _)
      | (with_reducible refine LeO.ite ?_ ?_)
      | (with_reducible refine LeO.bind ?_ (fun _ => ?_))
      | exact ih0 _ _ _
      | exact LeO.none _
      | refine LeO.ite ?_ ?_
      | refine LeO.bind ?_ (fun _ => ?_)
theorem endonymlaw5_sameWords.mono : ∀ a0 a1 k, LeO (endonymlaw5_sameWords.f k a0 a1) (endonymlaw5_sameWords.f (k + 1) a0 a1) := by
  intro a0 a1 k
  have ih0 := endonymlaw5_sameWords.mono_l k
  unfold endonymlaw5_sameWords.f
  repeat' first
      | (with_reducible exact ih0 _ _ _)
      | (with_reducible exact LeO.refl _)
      | (with_reducible exact LeO.none _)
      | (with_reducible refine LeO.ite ?_ ?_)
      | (with_reducible refine LeO.bind ?_ (fun _ => ?_))
      | exact ih0 _ _ _
      | exact LeO.none _
      | refine LeO.ite ?_ ?_
      | refine LeO.bind ?_ (fun _ => ?_)
set_option maxHeartbeats 8000000 in
set_option maxRecDepth 100000 in
theorem endonymlaw5_sameWords.calls (k : Nat) (A0 : Option Addr) (c0 : Nat) (l0 : List (S34)) (A1 : Option Addr) (c1 : Nat) (l1 : List (S48)) (r : Bool) (w : World) (hr0 : Kd.C k34 w A0 l0.length l0) (hc0 : l0.length ≤ c0) (hr1 : Kd.C k48 w A1 l1.length l1) (hc1 : l1.length ≤ c1) (h : endonymlaw5_sameWords.f k l0 l1 = some r) :
    Calls Try.prog 12 #[.slice A0 l0.length c0, .slice A1 l1.length c1] w fun e w' => e = .returned (.bool r) ∧ Drawn0 w w' := by
  have HR0 := Aside0.mk hr0
  have HC0 := Aside0.mk hc0
  clear hr0 hc0
  have HR1 := Aside0.mk hr1
  have HC1 := Aside0.mk hc1
  clear hr1 hc1
  have H : (if (l0.length : Int) = (l1.length : Int) then (endonymlaw5_sameWords.l0 k l0 l1 0) else (some false)) = some r := h
  clear h
  by_cases c3 : (l0.length : Int) = (l1.length : Int)
  · rw [if_pos c3] at H
    have c3b0 : ((l0.length : Int) == (l1.length : Int)) = true := beq_iff_eq.mpr c3
    have c3b1 : ((l0.length : Int) != (l1.length : Int)) = false := bne_eq_false_iff_eq.mpr c3
    have c3b2 : (l0.length == l1.length) = true := by first | simpa using c3 | (simp at c3 ⊢; omega)
    clear c3
    have H' := Aside0.mk H
    clear H
    go_enter Try.func12, Try.ntmps12
    go_wp2
    repeat (go_quiet (fail); try go_wp2)
    go_loopg [5] k (fun kq v5 w' => ∃ (x5_1 : Int), v5 = .int .i64 x5_1 ∧ Aside0 (endonymlaw5_sameWords.l0 kq l0 l1 x5_1 = some r) ∧ Aside0 (kq ≤ k) ∧ Drawn0 w w')
    case atStart => exact ⟨(0), (by first | rfl | (simp; done) | (simp [*]; done)), H', ⟨Nat.le_refl _⟩, by repeat (first | exact Drawn0.refl _ | apply Drawn0.step)⟩
    case round =>
      clear H'
      try clear c1
      try clear p2
      try clear c3
      try clear c3b0
      try clear c3b1
      try clear c3b2
      obtain ⟨x5_1, rfl, HA, HK1, ⟨m1, rfl⟩⟩ := hrel
      cases gk with
      | zero => exact absurd HA.out (by simp [endonymlaw5_sameWords.l0])
      | succ k1 =>
        have H := HA.out
        clear HA
        simp only [endonymlaw5_sameWords.l0] at H
        by_cases c4 : x5_1 < (l0.length : Int)
        · rw [if_pos c4] at H
          have c4b0 : decide (x5_1 < (l0.length : Int)) = true := decide_eq_true c4
          clear c4
          by_cases c5 : 0 ≤ x5_1
          · rw [if_pos c5] at H
            have c5b0 : decide (0 ≤ x5_1) = true := decide_eq_true c5
            clear c5
            by_cases c6 : x5_1 < (l1.length : Int)
            · rw [if_pos c6] at H
              have c6b0 : decide (x5_1 < (l1.length : Int)) = true := decide_eq_true c6
              clear c6
              by_cases c7 : ((rd_T34 l0 x5_1).f0).toList = ((rd_T48 l1 x5_1).f0).toList
              · rw [if_pos c7] at H
                have c7b0 : (((rd_T34 l0 x5_1).f0).toList == ((rd_T48 l1 x5_1).f0).toList) = true := beq_iff_eq.mpr c7
                have c7b1 : (((rd_T34 l0 x5_1).f0).toList != ((rd_T48 l1 x5_1).f0).toList) = false := bne_eq_false_iff_eq.mpr c7
                clear c7
                by_cases c8 : ((rd_T34 l0 x5_1).f1) = ((rd_T48 l1 x5_1).f1)
                · rw [if_pos c8] at H
                  have c8b0 : (((rd_T34 l0 x5_1).f1) == ((rd_T48 l1 x5_1).f1)) = true := beq_iff_eq.mpr c8
                  have c8b1 : (((rd_T34 l0 x5_1).f1) != ((rd_T48 l1 x5_1).f1)) = false := bne_eq_false_iff_eq.mpr c8
                  clear c8
                  have H' := Aside0.mk H
                  clear H
                  have p155 : 0 ≤ (x5_1 : Int) := of_decide_eq_true (by first | (with_reducible assumption) | assumption)
                  have q155 : x5_1 < (l0.length : Int) := of_decide_eq_true (by first | (with_reducible assumption) | assumption)
                  obtain ⟨ad155, e155, hx155_0, hx155_1⟩ := at_T34 HR0.out x5_1 p155 q155
                  cases e155
                  replace p155 := eq_true p155
                  replace q155 := eq_true q155
                  have p156 : 0 ≤ (x5_1 : Int) := of_decide_eq_true (by first | (with_reducible assumption) | assumption)
                  have q156 : x5_1 < (l1.length : Int) := of_decide_eq_true (by first | (with_reducible assumption) | assumption)
                  obtain ⟨ad156, e156, hx156_0, hx156_1⟩ := at_T48 HR1.out x5_1 p156 q156
                  cases e156
                  replace p156 := eq_true p156
                  replace q156 := eq_true q156
                  have p157 : 0 ≤ (x5_1 : Int) := of_decide_eq_true (by first | (with_reducible assumption) | assumption)
                  have q157 : x5_1 < (l0.length : Int) := of_decide_eq_true (by first | (with_reducible assumption) | assumption)
                  obtain ⟨ad157, e157, hx157_0, hx157_1⟩ := at_T34 HR0.out x5_1 p157 q157
                  obtain rfl : ad155 = ad157 := (by injection e157)
                  replace p157 := eq_true p157
                  replace q157 := eq_true q157
                  have p158 : 0 ≤ (x5_1 : Int) := of_decide_eq_true (by first | (with_reducible assumption) | assumption)
                  have q158 : x5_1 < (l1.length : Int) := of_decide_eq_true (by first | (with_reducible assumption) | assumption)
                  obtain ⟨ad158, e158, hx158_0, hx158_1⟩ := at_T48 HR1.out x5_1 p158 q158
                  obtain rfl : ad156 = ad158 := (by injection e158)
                  replace p158 := eq_true p158
                  replace q158 := eq_true q158
                  go_wp2
                  repeat (go_quiet (fail); try go_wp2)
                  go_roundg k1
                  case measure => have := HK1.out; omega
                  case rel => exact ⟨(wrap64 (x5_1 + 1)), (by first | rfl | (simp; done) | (simp [*]; done)), H', ⟨by have := HK1.out; omega⟩, by repeat (first | exact Drawn0.refl _ | apply Drawn0.step)⟩
                · rw [if_neg c8] at H
                  have c8b0 : (((rd_T34 l0 x5_1).f1) == ((rd_T48 l1 x5_1).f1)) = false := beq_eq_false_iff_ne.mpr c8
                  have c8b1 : (((rd_T34 l0 x5_1).f1) != ((rd_T48 l1 x5_1).f1)) = true := bne_iff_ne.mpr c8
                  obtain rfl := Option.some.inj H
                  have p155 : 0 ≤ (x5_1 : Int) := of_decide_eq_true (by first | (with_reducible assumption) | assumption)
                  have q155 : x5_1 < (l0.length : Int) := of_decide_eq_true (by first | (with_reducible assumption) | assumption)
                  obtain ⟨ad155, e155, hx155_0, hx155_1⟩ := at_T34 HR0.out x5_1 p155 q155
                  cases e155
                  replace p155 := eq_true p155
                  replace q155 := eq_true q155
                  have p156 : 0 ≤ (x5_1 : Int) := of_decide_eq_true (by first | (with_reducible assumption) | assumption)
                  have q156 : x5_1 < (l1.length : Int) := of_decide_eq_true (by first | (with_reducible assumption) | assumption)
                  obtain ⟨ad156, e156, hx156_0, hx156_1⟩ := at_T48 HR1.out x5_1 p156 q156
                  cases e156
                  replace p156 := eq_true p156
                  replace q156 := eq_true q156
                  have p157 : 0 ≤ (x5_1 : Int) := of_decide_eq_true (by first | (with_reducible assumption) | assumption)
                  have q157 : x5_1 < (l0.length : Int) := of_decide_eq_true (by first | (with_reducible assumption) | assumption)
                  obtain ⟨ad157, e157, hx157_0, hx157_1⟩ := at_T34 HR0.out x5_1 p157 q157
                  obtain rfl : ad155 = ad157 := (by injection e157)
                  replace p157 := eq_true p157
                  replace q157 := eq_true q157
                  have p158 : 0 ≤ (x5_1 : Int) := of_decide_eq_true (by first | (with_reducible assumption) | assumption)
                  have q158 : x5_1 < (l1.length : Int) := of_decide_eq_true (by first | (with_reducible assumption) | assumption)
                  obtain ⟨ad158, e158, hx158_0, hx158_1⟩ := at_T48 HR1.out x5_1 p158 q158
                  obtain rfl : ad156 = ad158 := (by injection e158)
                  replace p158 := eq_true p158
                  replace q158 := eq_true q158
                  go_wp2
                  repeat (go_quiet (fail); try go_wp2)
                  go_ret
                  exact ⟨by first | rfl | (simp; done) | (simp [*]; done), by repeat (first | exact Drawn0.refl _ | apply Drawn0.step)⟩
              · rw [if_neg c7] at H
                have c7b0 : (((rd_T34 l0 x5_1).f0).toList == ((rd_T48 l1 x5_1).f0).toList) = false := beq_eq_false_iff_ne.mpr c7
                have c7b1 : (((rd_T34 l0 x5_1).f0).toList != ((rd_T48 l1 x5_1).f0).toList) = true := bne_iff_ne.mpr c7
                obtain rfl := Option.some.inj H
                have p155 : 0 ≤ (x5_1 : Int) := of_decide_eq_true (by first | (with_reducible assumption) | assumption)
                have q155 : x5_1 < (l0.length : Int) := of_decide_eq_true (by first | (with_reducible assumption) | assumption)
                obtain ⟨ad155, e155, hx155_0, hx155_1⟩ := at_T34 HR0.out x5_1 p155 q155
                cases e155
                replace p155 := eq_true p155
                replace q155 := eq_true q155
                have p156 : 0 ≤ (x5_1 : Int) := of_decide_eq_true (by first | (with_reducible assumption) | assumption)
                have q156 : x5_1 < (l1.length : Int) := of_decide_eq_true (by first | (with_reducible assumption) | assumption)
                obtain ⟨ad156, e156, hx156_0, hx156_1⟩ := at_T48 HR1.out x5_1 p156 q156
                cases e156
                replace p156 := eq_true p156
                replace q156 := eq_true q156
                go_wp2
                repeat (go_quiet (fail); try go_wp2)
                go_ret
                exact ⟨by first | rfl | (simp; done) | (simp [*]; done), by repeat (first | exact Drawn0.refl _ | apply Drawn0.step)⟩
            · rw [if_neg c6] at H
              exact absurd H (by simp)
          · rw [if_neg c5] at H
            exact absurd H (by simp)
        · rw [if_neg c4] at H
          have c4b0 : decide (x5_1 < (l0.length : Int)) = false := decide_eq_false c4
          clear c4
          obtain rfl := Option.some.inj H
          go_wp2
          repeat (go_quiet (fail); try go_wp2)
          go_ret
          exact ⟨by first | rfl | (simp; done) | (simp [*]; done), by repeat (first | exact Drawn0.refl _ | apply Drawn0.step)⟩
  · rw [if_neg c3] at H
    have c3b0 : ((l0.length : Int) == (l1.length : Int)) = false := beq_eq_false_iff_ne.mpr c3
    have c3b1 : ((l0.length : Int) != (l1.length : Int)) = true := bne_iff_ne.mpr c3
    have c3b2 : (l0.length == l1.length) = false := by first | simpa using c3 | (simp at c3 ⊢; omega)
    obtain rfl := Option.some.inj H
    go_enter Try.func12, Try.ntmps12
    go_wp2
    repeat (go_quiet (fail); try go_wp2)
    go_ret
    exact ⟨by first | rfl | (simp; done) | (simp [*]; done), by repeat (first | exact Drawn0.refl _ | apply Drawn0.step)⟩

end Go.Proofs.Ytplnakmpogepmab.A
