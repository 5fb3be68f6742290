-- written by wip/pp.py of this session (the kit's print with patches); checked by Lean alone
import Derived.Test.YtplnakmpogepmabDoorAx0
import Derived.Test.YtplnakmpogepmabDoorAx1
namespace Go.Proofs.YtplnakmpogepmabDoor.A
open Go.RowKit Go.Proofs.YtplnakmpogepmabDoorW.PrintWords Go.Proofs.YtplnakmpogepmabDoorW.PrintLast Go.Proofs.YtplnakmpogepmabDoorW.PrintMore
attribute [local go_sem] max2_int min2_int max_two min_two max_three min_three max_four min_four   -- for this text's walks alone
set_option linter.unusedVariables false
set_option linter.unusedSimpArgs false

/-! ### scan_Span: function 13 -/
mutual
def scan_Span.l0 : Nat → ByteArray → Int → Option (Int × Int × Bool)
  | 0, _, _ => none
  | k + 1, x0, x5 => if (wrap64 (x5 + 1)) < (x0.size : Int) then (if 0 ≤ x5 then (if x5 < (x0.size : Int) then (if (bt x0 x5) = 46 then (if 0 ≤ (wrap64 (x5 + 1)) then (scan_Span.j1 k x0 x5 ((bt x0 (wrap64 (x5 + 1))) == 46)) else (none)) else (scan_Span.j1 k x0 x5 false)) else (none)) else (none)) else ((scan_Code.f k x0).bind fun bt102 => (some (bt102.1, bt102.1, bt102.2)))
def scan_Span.j1 : Nat → ByteArray → Int → Bool → Option (Int × Int × Bool)
  | 0, _, _, _ => none
  | k + 1, x0, x5, x27 => if x27 = true then (if 0 ≤ x5 then (if x5 ≤ (x0.size : Int) then ((scan_Code.f k (x0.extract 0 (x5 : Int).toNat)).bind fun bt104 => (if 0 ≤ (wrap64 (x5 + 2)) then (if (wrap64 (x5 + 2)) ≤ (x0.size : Int) then ((scan_Code.f k (x0.extract ((wrap64 (x5 + 2)) : Int).toNat x0.size)).bind fun bt106 => (if bt104.2 = true then (if bt106.2 = true then (if bt104.1 ≥ bt106.1 then (some (0, 0, false)) else (some (bt104.1, bt106.1, true))) else (some (0, 0, false))) else (some (0, 0, false)))) else (none)) else (none))) else (none)) else (none)) else (scan_Span.l0 k x0 (wrap64 (x5 + 1)))
end
def scan_Span.f (k : Nat) (a0 : ByteArray) : Option (Int × Int × Bool) := scan_Span.l0 k a0 0
theorem scan_Span.mono_l : ∀ k, (∀ y0 y1, LeO (scan_Span.l0 k y0 y1) (scan_Span.l0 (k + 1) y0 y1)) ∧ (∀ y0 y1 y2, LeO (scan_Span.j1 k y0 y1 y2) (scan_Span.j1 (k + 1) y0 y1 y2))
  | 0 => ⟨fun _ _ r h => by simp [scan_Span.l0] at h, fun _ _ _ r h => by simp [scan_Span.j1] at h⟩
  | k + 1 => by
    obtain ⟨ih0, ih1⟩ := scan_Span.mono_l k
    refine ⟨?_, ?_⟩
    · intro y0 y1
      unfold scan_Span.l0
      repeat' first
      | (with_reducible exact ih0 _ _)
      | (with_reducible exact ih1 _ _ _)
      | (with_reducible exact scan_Code.mono _ _)
      | (with_reducible exact LeO.refl _)
      | (with_reducible exact LeO.none _)
      | (with_reducible refine LeO.ite ?_ ?_)
      | (with_reducible refine LeO.bind ?_ (fun _ => ?_))
      | exact ih0 _ _
      | exact ih1 _ _ _
      | exact scan_Code.mono _ _
      | exact LeO.none _
      | refine LeO.ite ?_ ?_
      | refine LeO.bind ?_ (fun _ => ?_)
    · intro y0 y1 y2
      unfold scan_Span.j1
      repeat' first
      | (with_reducible exact ih0 _ _)
      | (with_reducible exact ih1 _ _ _)
      | (with_reducible exact scan_Code.mono _ _)
      | (with_reducible exact LeO.refl _)
      | (with_reducible exact LeO.none _)
      | (with_reducible refine LeO.ite ?_ ?_)
      | (with_reducible refine LeO.bind ?_ (fun _ => ?_))
      | exact ih0 _ _
      | exact ih1 _ _ _
      | exact scan_Code.mono _ _
      | exact LeO.none _
      | refine LeO.ite ?_ ?_
      | refine LeO.bind ?_ (fun _ => ?_)
theorem scan_Span.mono : ∀ a0 k, LeO (scan_Span.f k a0) (scan_Span.f (k + 1) a0) := by
  intro a0 k
  obtain ⟨ih0, ih1⟩ := scan_Span.mono_l k
  unfold scan_Span.f
  repeat' first
      | (with_reducible exact ih0 _ _)
      | (with_reducible exact ih1 _ _ _)
      | (with_reducible exact scan_Code.mono _ _)
      | (with_reducible exact LeO.refl _)
      | (with_reducible exact LeO.none _)
      | (with_reducible refine LeO.ite ?_ ?_)
      | (with_reducible refine LeO.bind ?_ (fun _ => ?_))
      | exact ih0 _ _
      | exact ih1 _ _ _
      | exact scan_Code.mono _ _
      | exact LeO.none _
      | refine LeO.ite ?_ ?_
      | refine LeO.bind ?_ (fun _ => ?_)
set_option maxHeartbeats 8000000 in
set_option maxRecDepth 100000 in
theorem scan_Span.calls (k : Nat) (a0 : ByteArray) (r1 : Int) (r2 : Int) (r3 : Bool) (w : World) (h : scan_Span.f k a0 = some (r1, r2, r3)) :
    Calls Tryd.prog 13 #[.string a0] w fun e w' => e = .returned (.tuple #[.int .i32 r1, .int .i32 r2, .bool r3]) ∧ Drawn0 w w' := by
  have H : (scan_Span.l0 k a0 0) = some (r1, r2, r3) := h
  clear h
  have H' := Aside0.mk H
  clear H
  go_enter Tryd.func13, Tryd.ntmps13
  go_wp2
  go_loopg [5] k (fun kq v5 w' => ∃ (x5_1 : Int), v5 = .int .i64 x5_1 ∧ Aside0 (scan_Span.l0 kq a0 x5_1 = some (r1, r2, r3)) ∧ Aside0 (kq ≤ k) ∧ Drawn0 w w')
  case atStart => exact ⟨(0), (by first | rfl | (simp; done) | (simp [*]; done)), H', ⟨Nat.le_refl _⟩, by repeat (first | exact Drawn0.refl _ | apply Drawn0.step)⟩
  case round =>
    clear H'
    try clear c1
    obtain ⟨x5_1, rfl, HA, HK1, ⟨m1, rfl⟩⟩ := hrel
    cases gk with
    | zero => exact absurd HA.out (by simp [scan_Span.l0])
    | succ k1 =>
      have H := HA.out
      clear HA
      simp only [scan_Span.l0] at H
      by_cases c2 : (wrap64 (x5_1 + 1)) < (a0.size : Int)
      · rw [if_pos c2] at H
        have c2b0 : decide ((wrap64 (x5_1 + 1)) < (a0.size : Int)) = true := decide_eq_true c2
        clear c2
        have HC3 := Aside0.mk H
        clear H
        go_upto_region 4 with (fail)
        go_cut [27] (fun v27 wc => ∃ (kq : Nat) (x27_2 : Bool), v27 = .bool x27_2 ∧ Aside0 (scan_Span.j1 kq a0 x5_1 x27_2 = some (r1, r2, r3)) ∧ Aside0 (kq ≤ k1) ∧ Drawn0 w wc)
        case first =>
          have H := HC3.out
          clear HC3
          by_cases c4 : 0 ≤ x5_1
          · rw [if_pos c4] at H
            have c4b0 : decide (0 ≤ x5_1) = true := decide_eq_true c4
            clear c4
            (first | rw [c4b0] | (simp only [i64_w, i32_w]; rw [c4b0]) | skip)
            by_cases c5 : x5_1 < (a0.size : Int)
            · rw [if_pos c5] at H
              have c5b0 : decide (x5_1 < (a0.size : Int)) = true := decide_eq_true c5
              clear c5
              by_cases c7 : (bt a0 x5_1) = 46
              · rw [if_pos c7] at H
                have c7b0 : ((bt a0 x5_1) == 46) = true := beq_iff_eq.mpr c7
                have c7b1 : ((bt a0 x5_1) != 46) = false := bne_eq_false_iff_eq.mpr c7
                clear c7
                obtain ⟨ji8, hji8⟩ : ∃ j_ : Int, (wrap64 (x5_1 + 1)) = j_ := ⟨_, rfl⟩
                replace H : (if 0 ≤ (ji8) then (scan_Span.j1 k1 a0 x5_1 ((bt a0 (ji8)) == 46)) else (none)) = some (r1, r2, r3) := by first | (rw [hji8] at H; exact H) | (simp only [hji8] at H ⊢; exact H)
                (try rw [hji8] at c2b0)
                have hji8w : (IntKind.i64.wrap (x5_1 + 1)) = ji8 := (i64_w _).trans hji8
                by_cases c9 : 0 ≤ (ji8)
                · rw [if_pos c9] at H
                  have c9b0 : decide (0 ≤ (ji8)) = true := decide_eq_true c9
                  clear c9
                  have H' := Aside0.mk H
                  clear H
                  have p6 : 0 ≤ (x5_1 : Int) := of_decide_eq_true (by first | (with_reducible assumption) | assumption)
                  have q6 : x5_1 < (a0.size : Int) := of_decide_eq_true (by first | (with_reducible assumption) | assumption)
                  have hx6 := bt_at a0 x5_1
                  replace p6 := eq_true p6
                  replace q6 := eq_true q6
                  have p10 : 0 ≤ ((ji8) : Int) := of_decide_eq_true (by first | (with_reducible assumption) | assumption)
                  have q10 : (ji8) < (a0.size : Int) := of_decide_eq_true (by first | (with_reducible assumption) | assumption)
                  have hx10 := bt_at a0 (ji8)
                  replace p10 := eq_true p10
                  replace q10 := eq_true q10
                  go_wp2
                  go_meet
                  case rel => exact ⟨_, (((bt a0 (ji8)) == 46)), (by first | rfl | (simp; done) | (simp only [← hji8] <;> (first | rfl | simp)) | (simp [*]; done)), H', ⟨by have := HK1.out; first | omega | exact Nat.le_refl _⟩, by repeat (first | exact Drawn0.refl _ | apply Drawn0.step)⟩
                · rw [if_neg c9] at H
                  exact absurd H (by simp)
              · rw [if_neg c7] at H
                have c7b0 : ((bt a0 x5_1) == 46) = false := beq_eq_false_iff_ne.mpr c7
                have c7b1 : ((bt a0 x5_1) != 46) = true := bne_iff_ne.mpr c7
                have H' := Aside0.mk H
                clear H
                have p6 : 0 ≤ (x5_1 : Int) := of_decide_eq_true (by first | (with_reducible assumption) | assumption)
                have q6 : x5_1 < (a0.size : Int) := of_decide_eq_true (by first | (with_reducible assumption) | assumption)
                have hx6 := bt_at a0 x5_1
                replace p6 := eq_true p6
                replace q6 := eq_true q6
                go_wp2
                go_meet
                case rel => exact ⟨_, (false), (by first | rfl | (simp; done) | (simp [*]; done)), H', ⟨by have := HK1.out; first | omega | exact Nat.le_refl _⟩, by repeat (first | exact Drawn0.refl _ | apply Drawn0.step)⟩
            · rw [if_neg c5] at H
              exact absurd H (by simp)
          · rw [if_neg c4] at H
            exact absurd H (by simp)
        case rest =>
          clear HC3
          try clear c1
          try clear p1
          try clear q1
          try clear hx1
          try clear c2
          try clear c2b0
          try clear p2
          try clear c4
          try clear c4b0
          try clear c5
          try clear c5b0
          try clear p6
          try clear q6
          try clear hx6
          try clear c7
          try clear c7b0
          try clear c7b1
          try clear c9
          try clear c9b0
          try clear p10
          try clear q10
          try clear hx10
          try clear p10
          try clear p6
          try clear q10
          try clear q6
          obtain ⟨kq, x27_2, rfl, HA, HJ2, ⟨mc2, rfl⟩⟩ := hcut
          cases kq with
          | zero => exact absurd HA.out (by simp [scan_Span.j1])
          | succ kj2 =>
            have H := HA.out
            clear HA
            simp only [scan_Span.j1] at H
            by_cases c11 : x27_2 = true
            · subst c11
              have H1 : (if 0 ≤ x5_1 then (if x5_1 ≤ (a0.size : Int) then ((scan_Code.f kj2 (a0.extract 0 (x5_1 : Int).toNat)).bind fun bt104 => (if 0 ≤ (wrap64 (x5_1 + 2)) then (if (wrap64 (x5_1 + 2)) ≤ (a0.size : Int) then ((scan_Code.f kj2 (a0.extract ((wrap64 (x5_1 + 2)) : Int).toNat a0.size)).bind fun bt106 => (if bt104.2 = true then (if bt106.2 = true then (if bt104.1 ≥ bt106.1 then (some (0, 0, false)) else (some (bt104.1, bt106.1, true))) else (some (0, 0, false))) else (some (0, 0, false)))) else (none)) else (none))) else (none)) else (none)) = some (r1, r2, r3) := by rw [if_pos rfl] at H; exact H
              clear H
              have H := H1
              clear H1
              by_cases c12 : 0 ≤ x5_1
              · rw [if_pos c12] at H
                have c12b0 := eq_true c12
                have c12b1 : decide (0 ≤ x5_1) = true := decide_eq_true c12
                clear c12
                by_cases c13 : x5_1 ≤ (a0.size : Int)
                · rw [if_pos c13] at H
                  have c13b0 := eq_true c13
                  have c13b1 : decide (x5_1 ≤ (a0.size : Int)) = true := decide_eq_true c13
                  clear c13
                  replace H := Option.bind_eq_some_iff.mp H
                  obtain ⟨⟨t104, t105⟩, A140, H⟩ := H
                  replace H : (if 0 ≤ (wrap64 (x5_1 + 2)) then (if (wrap64 (x5_1 + 2)) ≤ (a0.size : Int) then ((scan_Code.f kj2 (a0.extract ((wrap64 (x5_1 + 2)) : Int).toNat a0.size)).bind fun bt106 => (if t105 = true then (if bt106.2 = true then (if t104 ≥ bt106.1 then (some (0, 0, false)) else (some (t104, bt106.1, true))) else (some (0, 0, false))) else (some (0, 0, false)))) else (none)) else (none)) = some (r1, r2, r3) := H
                  have A14 := Aside0.mk A140
                  clear A140
                  obtain ⟨ji15, hji15⟩ : ∃ j_ : Int, (wrap64 (x5_1 + 2)) = j_ := ⟨_, rfl⟩
                  replace H : (if 0 ≤ (ji15) then (if (ji15) ≤ (a0.size : Int) then ((scan_Code.f kj2 (a0.extract ((ji15) : Int).toNat a0.size)).bind fun bt106 => (if t105 = true then (if bt106.2 = true then (if t104 ≥ bt106.1 then (some (0, 0, false)) else (some (t104, bt106.1, true))) else (some (0, 0, false))) else (some (0, 0, false)))) else (none)) else (none)) = some (r1, r2, r3) := by first | (rw [hji15] at H; exact H) | (simp only [hji15] at H ⊢; exact H)
                  (try rw [hji15] at A14)
                  have hji15w : (IntKind.i64.wrap (x5_1 + 2)) = ji15 := (i64_w _).trans hji15
                  by_cases c16 : 0 ≤ (ji15)
                  · rw [if_pos c16] at H
                    have c16b0 := eq_true c16
                    have c16b1 : decide (0 ≤ (ji15)) = true := decide_eq_true c16
                    clear c16
                    by_cases c17 : (ji15) ≤ (a0.size : Int)
                    · rw [if_pos c17] at H
                      have c17b0 := eq_true c17
                      have c17b1 : decide ((ji15) ≤ (a0.size : Int)) = true := decide_eq_true c17
                      clear c17
                      replace H := Option.bind_eq_some_iff.mp H
                      obtain ⟨⟨t106, t107⟩, A180, H⟩ := H
                      replace H : (if t105 = true then (if t107 = true then (if t104 ≥ t106 then (some (0, 0, false)) else (some (t104, t106, true))) else (some (0, 0, false))) else (some (0, 0, false))) = some (r1, r2, r3) := H
                      have A18 := Aside0.mk A180
                      clear A180
                      by_cases c19 : t105 = true
                      · subst c19
                        have H1 : (if t107 = true then (if t104 ≥ t106 then (some (0, 0, false)) else (some (t104, t106, true))) else (some (0, 0, false))) = some (r1, r2, r3) := by rw [if_pos rfl] at H; exact H
                        clear H
                        have H := H1
                        clear H1
                        by_cases c20 : t107 = true
                        · subst c20
                          have H1 : (if t104 ≥ t106 then (some (0, 0, false)) else (some (t104, t106, true))) = some (r1, r2, r3) := by rw [if_pos rfl] at H; exact H
                          clear H
                          have H := H1
                          clear H1
                          by_cases c21 : t104 ≥ t106
                          · rw [if_pos c21] at H
                            have c21b0 : decide (t106 ≤ t104) = true := decide_eq_true c21
                            clear c21
                            simp only [Option.some.injEq, Prod.mk.injEq] at H
                            obtain ⟨rfl, rfl, rfl⟩ := H
                            go_wp2_with (first | ((with_reducible refine gate_callee (f := 12) rfl ?_); refine goesL_ (some 32) rfl rfl Tryd.func12 (by kernel_rfl) rfl #[.string (a0.extract 0 (x5_1 : Int).toNat)] rfl (by (try simp only [List.map_toArray, List.map_cons, List.map_nil]); first | done | rfl | (simp only [List.length_drop, List.length_take]; rfl)) ?_; (with_reducible refine (scan_Code.calls kj2 (a0.extract 0 (x5_1 : Int).toNat) t104 true _ A14.out).mono ?_); rintro e w' ⟨rfl, ⟨nd, rfl⟩⟩; refine ⟨_, rfl, ?_⟩) | ((with_reducible refine gate_callee (f := 12) rfl ?_); refine goesL_ (some 40) rfl rfl Tryd.func12 (by kernel_rfl) rfl #[.string (a0.extract ((ji15) : Int).toNat a0.size)] rfl (by (try simp only [List.map_toArray, List.map_cons, List.map_nil]); first | done | (simp only [hji15]; rfl) | rfl | (simp only [List.length_drop, List.length_take]; rfl)) ?_; (with_reducible refine (scan_Code.calls kj2 (a0.extract ((ji15) : Int).toNat a0.size) t106 true _ A18.out).mono ?_); rintro e w' ⟨rfl, ⟨nd, rfl⟩⟩; refine ⟨_, rfl, ?_⟩))
                            go_ret3
                            exact ⟨by first | rfl | (simp; done) | (simp only [← hji15] <;> (first | rfl | simp)) | (simp [*]; done), by repeat (first | exact Drawn0.refl _ | apply Drawn0.step)⟩
                          · rw [if_neg c21] at H
                            have c21b0 : decide (t106 ≤ t104) = false := decide_eq_false c21
                            clear c21
                            simp only [Option.some.injEq, Prod.mk.injEq] at H
                            obtain ⟨rfl, rfl, rfl⟩ := H
                            go_wp2_with (first | ((with_reducible refine gate_callee (f := 12) rfl ?_); refine goesL_ (some 32) rfl rfl Tryd.func12 (by kernel_rfl) rfl #[.string (a0.extract 0 (x5_1 : Int).toNat)] rfl (by (try simp only [List.map_toArray, List.map_cons, List.map_nil]); first | done | rfl | (simp only [List.length_drop, List.length_take]; rfl)) ?_; (with_reducible refine (scan_Code.calls kj2 (a0.extract 0 (x5_1 : Int).toNat) t104 true _ A14.out).mono ?_); rintro e w' ⟨rfl, ⟨nd, rfl⟩⟩; refine ⟨_, rfl, ?_⟩) | ((with_reducible refine gate_callee (f := 12) rfl ?_); refine goesL_ (some 40) rfl rfl Tryd.func12 (by kernel_rfl) rfl #[.string (a0.extract ((ji15) : Int).toNat a0.size)] rfl (by (try simp only [List.map_toArray, List.map_cons, List.map_nil]); first | done | (simp only [hji15]; rfl) | rfl | (simp only [List.length_drop, List.length_take]; rfl)) ?_; (with_reducible refine (scan_Code.calls kj2 (a0.extract ((ji15) : Int).toNat a0.size) t106 true _ A18.out).mono ?_); rintro e w' ⟨rfl, ⟨nd, rfl⟩⟩; refine ⟨_, rfl, ?_⟩))
                            go_ret3
                            exact ⟨by first | rfl | (simp; done) | (simp only [← hji15] <;> (first | rfl | simp)) | (simp [*]; done), by repeat (first | exact Drawn0.refl _ | apply Drawn0.step)⟩
                        · replace c20 := Bool.eq_false_iff.mpr c20
                          subst c20
                          have H1 : (some (0, 0, false)) = some (r1, r2, r3) := by rw [if_neg (show ¬ (false = true) by decide)] at H; exact H
                          clear H
                          have H := H1
                          clear H1
                          simp only [Option.some.injEq, Prod.mk.injEq] at H
                          obtain ⟨rfl, rfl, rfl⟩ := H
                          go_wp2_with (first | ((with_reducible refine gate_callee (f := 12) rfl ?_); refine goesL_ (some 32) rfl rfl Tryd.func12 (by kernel_rfl) rfl #[.string (a0.extract 0 (x5_1 : Int).toNat)] rfl (by (try simp only [List.map_toArray, List.map_cons, List.map_nil]); first | done | rfl | (simp only [List.length_drop, List.length_take]; rfl)) ?_; (with_reducible refine (scan_Code.calls kj2 (a0.extract 0 (x5_1 : Int).toNat) t104 true _ A14.out).mono ?_); rintro e w' ⟨rfl, ⟨nd, rfl⟩⟩; refine ⟨_, rfl, ?_⟩) | ((with_reducible refine gate_callee (f := 12) rfl ?_); refine goesL_ (some 40) rfl rfl Tryd.func12 (by kernel_rfl) rfl #[.string (a0.extract ((ji15) : Int).toNat a0.size)] rfl (by (try simp only [List.map_toArray, List.map_cons, List.map_nil]); first | done | (simp only [hji15]; rfl) | rfl | (simp only [List.length_drop, List.length_take]; rfl)) ?_; (with_reducible refine (scan_Code.calls kj2 (a0.extract ((ji15) : Int).toNat a0.size) t106 false _ A18.out).mono ?_); rintro e w' ⟨rfl, ⟨nd, rfl⟩⟩; refine ⟨_, rfl, ?_⟩))
                          go_ret3
                          exact ⟨by first | rfl | (simp; done) | (simp only [← hji15] <;> (first | rfl | simp)) | (simp [*]; done), by repeat (first | exact Drawn0.refl _ | apply Drawn0.step)⟩
                      · replace c19 := Bool.eq_false_iff.mpr c19
                        subst c19
                        have H1 : (some (0, 0, false)) = some (r1, r2, r3) := by rw [if_neg (show ¬ (false = true) by decide)] at H; exact H
                        clear H
                        have H := H1
                        clear H1
                        simp only [Option.some.injEq, Prod.mk.injEq] at H
                        obtain ⟨rfl, rfl, rfl⟩ := H
                        go_wp2_with (first | ((with_reducible refine gate_callee (f := 12) rfl ?_); refine goesL_ (some 32) rfl rfl Tryd.func12 (by kernel_rfl) rfl #[.string (a0.extract 0 (x5_1 : Int).toNat)] rfl (by (try simp only [List.map_toArray, List.map_cons, List.map_nil]); first | done | rfl | (simp only [List.length_drop, List.length_take]; rfl)) ?_; (with_reducible refine (scan_Code.calls kj2 (a0.extract 0 (x5_1 : Int).toNat) t104 false _ A14.out).mono ?_); rintro e w' ⟨rfl, ⟨nd, rfl⟩⟩; refine ⟨_, rfl, ?_⟩) | ((with_reducible refine gate_callee (f := 12) rfl ?_); refine goesL_ (some 40) rfl rfl Tryd.func12 (by kernel_rfl) rfl #[.string (a0.extract ((ji15) : Int).toNat a0.size)] rfl (by (try simp only [List.map_toArray, List.map_cons, List.map_nil]); first | done | (simp only [hji15]; rfl) | rfl | (simp only [List.length_drop, List.length_take]; rfl)) ?_; (with_reducible refine (scan_Code.calls kj2 (a0.extract ((ji15) : Int).toNat a0.size) t106 t107 _ A18.out).mono ?_); rintro e w' ⟨rfl, ⟨nd, rfl⟩⟩; refine ⟨_, rfl, ?_⟩))
                        go_ret3
                        exact ⟨by first | rfl | (simp; done) | (simp only [← hji15] <;> (first | rfl | simp)) | (simp [*]; done), by repeat (first | exact Drawn0.refl _ | apply Drawn0.step)⟩
                    · rw [if_neg c17] at H
                      exact absurd H (by simp)
                  · rw [if_neg c16] at H
                    exact absurd H (by simp)
                · rw [if_neg c13] at H
                  exact absurd H (by simp)
              · rw [if_neg c12] at H
                exact absurd H (by simp)
            · replace c11 := Bool.eq_false_iff.mpr c11
              subst c11
              have H1 : (scan_Span.l0 kj2 a0 (wrap64 (x5_1 + 1))) = some (r1, r2, r3) := by rw [if_neg (show ¬ (false = true) by decide)] at H; exact H
              clear H
              have H := H1
              clear H1
              have H' := Aside0.mk H
              clear H
              go_wp2
              go_roundg kj2
              case measure => have := HK1.out; have := HJ2.out; omega
              case rel => exact ⟨(wrap64 (x5_1 + 1)), (by first | rfl | (simp; done) | (simp [*]; done)), H', ⟨by have := HK1.out; have := HJ2.out; omega⟩, by repeat (first | exact Drawn0.refl _ | apply Drawn0.step)⟩
      · rw [if_neg c2] at H
        have c2b0 : decide ((wrap64 (x5_1 + 1)) < (a0.size : Int)) = false := decide_eq_false c2
        clear c2
        replace H := Option.bind_eq_some_iff.mp H
        obtain ⟨⟨t102, t103⟩, A220, H⟩ := H
        replace H : (some (t102, t102, t103)) = some (r1, r2, r3) := H
        have A22 := Aside0.mk A220
        clear A220
        simp only [Option.some.injEq, Prod.mk.injEq] at H
        obtain ⟨rfl, rfl, rfl⟩ := H
        go_wp2_with (first | ((with_reducible refine gate_callee (f := 12) rfl ?_); refine goesL_ (some 58) rfl rfl Tryd.func12 (by kernel_rfl) rfl #[.string a0] rfl (by (try simp only [List.map_toArray, List.map_cons, List.map_nil]); first | done | rfl | (simp only [List.length_drop, List.length_take]; rfl)) ?_; (with_reducible refine (scan_Code.calls k1 a0 t102 t103 _ A22.out).mono ?_); rintro e w' ⟨rfl, ⟨nd, rfl⟩⟩; refine ⟨_, rfl, ?_⟩))
        go_ret3
        exact ⟨by first | rfl | (simp; done) | (simp [*]; done), by repeat (first | exact Drawn0.refl _ | apply Drawn0.step)⟩

/-! ### scan_Whole: function 14 -/
mutual
def scan_Whole.j0 : Nat → ByteArray → Bool → Option (Int × Bool)
  | 0, _, _ => none
  | k + 1, x0, x4 => if x4 = true then (if 1 ≤ (x0.size : Int) then (scan_Whole.j1 k (x0.extract 1 x0.size) x4) else (none)) else (scan_Whole.j1 k x0 x4)
def scan_Whole.j1 : Nat → ByteArray → Bool → Option (Int × Bool)
  | 0, _, _ => none
  | k + 1, x0, x4 => if (x0.size : Int) < 1 then (scan_Whole.j2 k x0 x4 true) else (if (x0.size : Int) > 9 then (scan_Whole.j2 k x0 x4 true) else (if 0 < (x0.size : Int) then (scan_Whole.j2 k x0 x4 ((bt x0 0) == 48)) else (none)))
def scan_Whole.j2 : Nat → ByteArray → Bool → Bool → Option (Int × Bool)
  | 0, _, _, _ => none
  | k + 1, x0, x4, x32 => if x32 = true then (some (0, false)) else (scan_Whole.l0 k x0 x4 0 (x0.size : Int) 0)
def scan_Whole.l0 : Nat → ByteArray → Bool → Int → Int → Int → Option (Int × Bool)
  | 0, _, _, _, _, _ => none
  | k + 1, x0, x4, x5, x34, x35 => if x35 < x34 then (if 0 ≤ x35 then (if x35 < (x0.size : Int) then (if (bt x0 x35) < 48 then (some (0, false)) else (if (bt x0 x35) > 57 then (some (0, false)) else (scan_Whole.l0 k x0 x4 (wrap64 ((wrap64 (10 * x5)) + (((bt x0 x35) - 48) % 256))) x34 (wrap64 (x35 + 1))))) else (none)) else (none)) else (if x4 = true then (some (wrap64 (-x5), true)) else (some (x5, true)))
end
def scan_Whole.f (k : Nat) (a0 : ByteArray) : Option (Int × Bool) := if a0.toList = ([48] : List UInt8) then (some (0, true)) else (if (a0.size : Int) > 0 then (if 0 < (a0.size : Int) then (scan_Whole.j0 k a0 ((bt a0 0) == 45)) else (none)) else (scan_Whole.j0 k a0 false))
theorem scan_Whole.mono_l : ∀ k, (∀ y0 y1, LeO (scan_Whole.j0 k y0 y1) (scan_Whole.j0 (k + 1) y0 y1)) ∧ (∀ y0 y1, LeO (scan_Whole.j1 k y0 y1) (scan_Whole.j1 (k + 1) y0 y1)) ∧ (∀ y0 y1 y2, LeO (scan_Whole.j2 k y0 y1 y2) (scan_Whole.j2 (k + 1) y0 y1 y2)) ∧ (∀ y0 y1 y2 y3 y4, LeO (scan_Whole.l0 k y0 y1 y2 y3 y4) (scan_Whole.l0 (k + 1) y0 y1 y2 y3 y4))
  | 0 => ⟨fun _ _ r h => by simp [scan_Whole.j0] at h, fun _ _ r h => by simp [scan_Whole.j1] at h, fun _ _ _ r h => by simp [scan_Whole.j2] at h, fun _ _ _ _ _ r h => by simp [scan_Whole.l0] at h⟩
  | k + 1 => by
    obtain ⟨ih0, ih1, ih2, ih3⟩ := scan_Whole.mono_l k
    refine ⟨?_, ?_, ?_, ?_⟩
    · intro y0 y1
      unfold scan_Whole.j0
      repeat' first
      | (with_reducible exact ih0 _ _)
      | (with_reducible exact ih1 _ _)
      | (with_reducible exact ih2 _ _ _)
      | (with_reducible exact ih3 _ _ _ _ _)
      | (with_reducible exact LeO.refl _)
      | (with_reducible exact LeO.none _)
      | (with_reducible refine LeO.ite ?_ ?_)
      | (with_reducible refine LeO.bind ?_ (fun _ => ?_))
      | exact ih0 _ _
      | exact ih1 _ _
      | exact ih2 _ _ _
      | exact ih3 _ _ _ _ _
      | exact LeO.none _
      | refine LeO.ite ?_ ?_
      | refine LeO.bind ?_ (fun _ => ?_)
    · intro y0 y1
      unfold scan_Whole.j1
      repeat' first
      | (with_reducible exact ih0 _ _)
      | (with_reducible exact ih1 _ _)
      | (with_reducible exact ih2 _ _ _)
      | (with_reducible exact ih3 _ _ _ _ _)
      | (with_reducible exact LeO.refl _)
      | (with_reducible exact LeO.none _)
      | (with_reducible refine LeO.ite ?_ ?_)
      | (with_reducible refine LeO.bind ?_ (fun _ => ?_))
      | exact ih0 _ _
      | exact ih1 _ _
      | exact ih2 _ _ _
      | exact ih3 _ _ _ _ _
      | exact LeO.none _
      | refine LeO.ite ?_ ?_
      | refine LeO.bind ?_ (fun _ => ?_)
    · intro y0 y1 y2
      unfold scan_Whole.j2
      repeat' first
      | (with_reducible exact ih0 _ _)
      | (with_reducible exact ih1 _ _)
      | (with_reducible exact ih2 _ _ _)
      | (with_reducible exact ih3 _ _ _ _ _)
      | (with_reducible exact LeO.refl _)
      | (with_reducible exact LeO.none _)
      | (with_reducible refine LeO.ite ?_ ?_)
      | (with_reducible refine LeO.bind ?_ (fun _ => ?_))
      | exact ih0 _ _
      | exact ih1 _ _
      | exact ih2 _ _ _
      | exact ih3 _ _ _ _ _
      | exact LeO.none _
      | refine LeO.ite ?_ ?_
      | refine LeO.bind ?_ (fun _ => ?_)
    · intro y0 y1 y2 y3 y4
      unfold scan_Whole.l0
      repeat' first
      | (with_reducible exact ih0 _ _)
      | (with_reducible exact ih1 _ _)
      | (with_reducible exact ih2 _ _ _)
      | (with_reducible exact ih3 _ _ _ _ _)
      | (with_reducible exact LeO.refl _)
      | (with_reducible exact LeO.none _)
      | (with_reducible refine LeO.ite ?_ ?_)
      | (with_reducible refine LeO.bind ?_ (fun _ => ?_))
      | exact ih0 _ _
      | exact ih1 _ _
      | exact ih2 _ _ _
      | exact ih3 _ _ _ _ _
      | exact LeO.none _
      | refine LeO.ite ?_ ?_
      | refine LeO.bind ?_ (fun _ => ?_)
theorem scan_Whole.mono : ∀ a0 k, LeO (scan_Whole.f k a0) (scan_Whole.f (k + 1) a0) := by
  intro a0 k
  obtain ⟨ih0, ih1, ih2, ih3⟩ := scan_Whole.mono_l k
  unfold scan_Whole.f
  repeat' first
      | (with_reducible exact ih0 _ _)
      | (with_reducible exact ih1 _ _)
      | (with_reducible exact ih2 _ _ _)
      | (with_reducible exact ih3 _ _ _ _ _)
      | (with_reducible exact LeO.refl _)
      | (with_reducible exact LeO.none _)
      | (with_reducible refine LeO.ite ?_ ?_)
      | (with_reducible refine LeO.bind ?_ (fun _ => ?_))
      | exact ih0 _ _
      | exact ih1 _ _
      | exact ih2 _ _ _
      | exact ih3 _ _ _ _ _
      | exact LeO.none _
      | refine LeO.ite ?_ ?_
      | refine LeO.bind ?_ (fun _ => ?_)
set_option maxHeartbeats 8000000 in
set_option maxRecDepth 100000 in
theorem scan_Whole.calls (k : Nat) (a0 : ByteArray) (r1 : Int) (r2 : Bool) (w : World) (h : scan_Whole.f k a0 = some (r1, r2)) :
    Calls Tryd.prog 14 #[.string a0] w fun e w' => e = .returned (.tuple #[.int .i64 r1, .bool r2]) ∧ Drawn0 w w' := by
  have H : (if a0.toList = ([48] : List UInt8) then (some (0, true)) else (if (a0.size : Int) > 0 then (if 0 < (a0.size : Int) then (scan_Whole.j0 k a0 ((bt a0 0) == 45)) else (none)) else (scan_Whole.j0 k a0 false))) = some (r1, r2) := h
  clear h
  by_cases c2 : a0.toList = ([48] : List UInt8)
  · rw [if_pos c2] at H
    have c2b0 : (a0.toList == ([48] : List UInt8)) = true := beq_iff_eq.mpr c2
    have c2b1 : (a0.toList != ([48] : List UInt8)) = false := bne_eq_false_iff_eq.mpr c2
    clear c2
    simp only [Option.some.injEq, Prod.mk.injEq] at H
    obtain ⟨rfl, rfl⟩ := H
    go_enter Tryd.func14, Tryd.ntmps14
    go_wp2
    go_ret2
    exact ⟨by first | rfl | (simp; done) | (simp [*]; done), by repeat (first | exact Drawn0.refl _ | apply Drawn0.step)⟩
  · rw [if_neg c2] at H
    have c2b0 : (a0.toList == ([48] : List UInt8)) = false := beq_eq_false_iff_ne.mpr c2
    have c2b1 : (a0.toList != ([48] : List UInt8)) = true := bne_iff_ne.mpr c2
    have HC3 := Aside0.mk H
    clear H
    go_enter Tryd.func14, Tryd.ntmps14
    go_upto_region 3 with (fail)
    go_cut [4] (fun v4 wc => ∃ (kq : Nat) (x4_2 : Bool), v4 = .bool x4_2 ∧ Aside0 (scan_Whole.j0 kq a0 x4_2 = some (r1, r2)) ∧ Aside0 (kq ≤ k) ∧ Drawn0 w wc)
    case first =>
      have H := HC3.out
      clear HC3
      by_cases c4 : (a0.size : Int) > 0
      · rw [if_pos c4] at H
        have c4b0 : decide (0 < (a0.size : Int)) = true := decide_eq_true c4
        have c4b1 : decide (0 < a0.size) = true := decide_eq_true (by omega)
        clear c4
        (first | rw [c4b0] | (simp only [i64_w, i32_w]; rw [c4b0]) | skip)
        by_cases c5 : 0 < (a0.size : Int)
        · rw [if_pos c5] at H
          have c5b0 : decide (0 < (a0.size : Int)) = true := decide_eq_true c5
          have c5b1 : decide (0 < a0.size) = true := decide_eq_true (by omega)
          clear c5
          have H' := Aside0.mk H
          clear H
          have p6 : 0 ≤ (0 : Int) := (by omega)
          have q6 : 0 < a0.size := (by have : (0 : Int) < (a0.size : Int) := of_decide_eq_true (by first | (with_reducible assumption) | assumption); omega)
          have hx6 : ∀ h : 0 < a0.size, ((a0[0]'h).toNat : Int) = bt a0 0 := bt_at a0 0
          clear p6
          have qi6 : (0 < (a0.size : Int)) = True := eq_true (of_decide_eq_true (by first | (with_reducible assumption) | assumption))
          replace q6 := eq_true q6
          go_wp2
          go_meet
          case rel => exact ⟨_, (((bt a0 0) == 45)), (by first | rfl | (simp; done) | (simp [*]; done)), H', ⟨by first | omega | exact Nat.le_refl _⟩, by repeat (first | exact Drawn0.refl _ | apply Drawn0.step)⟩
        · rw [if_neg c5] at H
          exact absurd H (by simp)
      · rw [if_neg c4] at H
        have c4b0 : decide (0 < (a0.size : Int)) = false := decide_eq_false c4
        have c4b1 : decide (0 < a0.size) = false := decide_eq_false (by omega)
        clear c4
        (first | rw [c4b0] | (simp only [i64_w, i32_w]; rw [c4b0]) | skip)
        have H' := Aside0.mk H
        clear H
        go_wp2
        go_meet
        case rel => exact ⟨_, (false), (by first | rfl | (simp; done) | (simp [*]; done)), H', ⟨by first | omega | exact Nat.le_refl _⟩, by repeat (first | exact Drawn0.refl _ | apply Drawn0.step)⟩
    case rest =>
      clear HC3
      try clear c1
      try clear c2
      try clear c2b0
      try clear c2b1
      try clear p2
      try clear c4
      try clear c4b0
      try clear c4b1
      try clear c5
      try clear c5b0
      try clear c5b1
      try clear p6
      try clear q6
      try clear hx6
      try clear qi6
      try clear p6
      try clear q6
      obtain ⟨kq, x4_2, rfl, HA, HJ2, ⟨mc2, rfl⟩⟩ := hcut
      cases kq with
      | zero => exact absurd HA.out (by simp [scan_Whole.j0])
      | succ kj2 =>
        have H := HA.out
        clear HA
        simp only [scan_Whole.j0] at H
        have HC7 := Aside0.mk H
        clear H
        go_upto_if 17 with (fail)
        go_cut [0] (fun v0 wc => ∃ (kq : Nat) (x0_6 : ByteArray), v0 = .string x0_6 ∧ Aside0 (scan_Whole.j1 kq x0_6 x4_2 = some (r1, r2)) ∧ Aside0 (kq ≤ kj2) ∧ Drawn0 w wc)
        case first =>
          have H := HC7.out
          clear HC7
          by_cases c8 : x4_2 = true
          · subst c8
            have H1 : (if 1 ≤ (a0.size : Int) then (scan_Whole.j1 kj2 (a0.extract 1 a0.size) true) else (none)) = some (r1, r2) := by rw [if_pos rfl] at H; exact H
            clear H
            have H := H1
            clear H1
            by_cases c9 : 1 ≤ (a0.size : Int)
            · rw [if_pos c9] at H
              have c9b0 := eq_true c9
              have c9b1 : decide (1 ≤ (a0.size : Int)) = true := decide_eq_true c9
              clear c9
              have H' := Aside0.mk H
              clear H
              go_wp2
              go_meet
              case rel => exact ⟨_, (a0.extract 1 a0.size), (by first | rfl | (simp; done) | (simp [*]; done)), H', ⟨by have := HJ2.out; first | omega | exact Nat.le_refl _⟩, by repeat (first | exact Drawn0.refl _ | apply Drawn0.step)⟩
            · rw [if_neg c9] at H
              exact absurd H (by simp)
          · replace c8 := Bool.eq_false_iff.mpr c8
            subst c8
            have H1 : (scan_Whole.j1 kj2 a0 false) = some (r1, r2) := by rw [if_neg (show ¬ (false = true) by decide)] at H; exact H
            clear H
            have H := H1
            clear H1
            have H' := Aside0.mk H
            clear H
            go_wp2
            go_meet
            case rel => exact ⟨_, (a0), (by first | rfl | (simp; done) | (simp [*]; done)), H', ⟨by have := HJ2.out; first | omega | exact Nat.le_refl _⟩, by repeat (first | exact Drawn0.refl _ | apply Drawn0.step)⟩
        case rest =>
          clear HC7
          try clear c1
          try clear c2
          try clear c2b0
          try clear c2b1
          try clear p2
          try clear c4
          try clear c4b0
          try clear c4b1
          try clear c5
          try clear c5b0
          try clear c5b1
          try clear p6
          try clear q6
          try clear hx6
          try clear qi6
          try clear c8
          try clear c9
          try clear c9b0
          try clear c9b1
          try clear p2
          try clear p6
          try clear q6
          obtain ⟨kq, x0_6, rfl, HA, HJ6, ⟨mc6, rfl⟩⟩ := hcut
          cases kq with
          | zero => exact absurd HA.out (by simp [scan_Whole.j1])
          | succ kj6 =>
            have H := HA.out
            clear HA
            simp only [scan_Whole.j1] at H
            have HC10 := Aside0.mk H
            clear H
            go_upto_region 6 with (fail)
            go_cut [32] (fun v32 wc => ∃ (kq : Nat) (x32_9 : Bool), v32 = .bool x32_9 ∧ Aside0 (scan_Whole.j2 kq x0_6 x4_2 x32_9 = some (r1, r2)) ∧ Aside0 (kq ≤ kj6) ∧ Drawn0 w wc)
            case first =>
              have H := HC10.out
              clear HC10
              by_cases c11 : (x0_6.size : Int) < 1
              · rw [if_pos c11] at H
                have c11b0 : decide ((x0_6.size : Int) < 1) = true := decide_eq_true c11
                have c11b1 : decide (x0_6.size < 1) = true := decide_eq_true (by omega)
                clear c11
                (first | rw [c11b0] | (simp only [i64_w, i32_w]; rw [c11b0]) | skip)
                have H' := Aside0.mk H
                clear H
                go_wp2
                go_meet
                case rel => exact ⟨_, (true), (by first | rfl | (simp; done) | (simp [*]; done)), H', ⟨by have := HJ2.out; have := HJ6.out; first | omega | exact Nat.le_refl _⟩, by repeat (first | exact Drawn0.refl _ | apply Drawn0.step)⟩
              · rw [if_neg c11] at H
                have c11b0 : decide ((x0_6.size : Int) < 1) = false := decide_eq_false c11
                have c11b1 : decide (x0_6.size < 1) = false := decide_eq_false (by omega)
                clear c11
                (first | rw [c11b0] | (simp only [i64_w, i32_w]; rw [c11b0]) | skip)
                by_cases c12 : (x0_6.size : Int) > 9
                · rw [if_pos c12] at H
                  have c12b0 : decide (9 < (x0_6.size : Int)) = true := decide_eq_true c12
                  have c12b1 : decide (9 < x0_6.size) = true := decide_eq_true (by omega)
                  clear c12
                  have H' := Aside0.mk H
                  clear H
                  go_wp2
                  go_meet
                  case rel => exact ⟨_, (true), (by first | rfl | (simp; done) | (simp [*]; done)), H', ⟨by have := HJ2.out; have := HJ6.out; first | omega | exact Nat.le_refl _⟩, by repeat (first | exact Drawn0.refl _ | apply Drawn0.step)⟩
                · rw [if_neg c12] at H
                  have c12b0 : decide (9 < (x0_6.size : Int)) = false := decide_eq_false c12
                  have c12b1 : decide (9 < x0_6.size) = false := decide_eq_false (by omega)
                  clear c12
                  by_cases c13 : 0 < (x0_6.size : Int)
                  · rw [if_pos c13] at H
                    have c13b0 : decide (0 < (x0_6.size : Int)) = true := decide_eq_true c13
                    have c13b1 : decide (0 < x0_6.size) = true := decide_eq_true (by omega)
                    clear c13
                    have H' := Aside0.mk H
                    clear H
                    have p14 : 0 ≤ (0 : Int) := (by omega)
                    have q14 : 0 < x0_6.size := (by have : (0 : Int) < (x0_6.size : Int) := of_decide_eq_true (by first | (with_reducible assumption) | assumption); omega)
                    have hx14 : ∀ h : 0 < x0_6.size, ((x0_6[0]'h).toNat : Int) = bt x0_6 0 := bt_at x0_6 0
                    clear p14
                    have qi14 : (0 < (x0_6.size : Int)) = True := eq_true (of_decide_eq_true (by first | (with_reducible assumption) | assumption))
                    replace q14 := eq_true q14
                    go_wp2
                    go_meet
                    case rel => exact ⟨_, (((bt x0_6 0) == 48)), (by first | rfl | (simp; done) | (simp [*]; done)), H', ⟨by have := HJ2.out; have := HJ6.out; first | omega | exact Nat.le_refl _⟩, by repeat (first | exact Drawn0.refl _ | apply Drawn0.step)⟩
                  · rw [if_neg c13] at H
                    exact absurd H (by simp)
            case rest =>
              clear HC10
              try clear c1
              try clear p1
              try clear q1
              try clear hx1
              try clear qi1
              try clear c2
              try clear c2b0
              try clear c2b1
              try clear p2
              try clear c4
              try clear c4b0
              try clear c4b1
              try clear c5
              try clear c5b0
              try clear c5b1
              try clear c6
              try clear p6
              try clear q6
              try clear hx6
              try clear qi6
              try clear c8
              try clear c9
              try clear c9b0
              try clear c9b1
              try clear c11
              try clear c11b0
              try clear c11b1
              try clear c12
              try clear c12b0
              try clear c12b1
              try clear c13
              try clear c13b0
              try clear c13b1
              try clear c14
              try clear p14
              try clear q14
              try clear hx14
              try clear qi14
              try clear p14
              try clear p2
              try clear p6
              try clear q14
              try clear q6
              obtain ⟨kq, x32_9, rfl, HA, HJ9, ⟨mc9, rfl⟩⟩ := hcut
              cases kq with
              | zero => exact absurd HA.out (by simp [scan_Whole.j2])
              | succ kj9 =>
                have H := HA.out
                clear HA
                simp only [scan_Whole.j2] at H
                by_cases c15 : x32_9 = true
                · subst c15
                  have H1 : (some (0, false)) = some (r1, r2) := by rw [if_pos rfl] at H; exact H
                  clear H
                  have H := H1
                  clear H1
                  simp only [Option.some.injEq, Prod.mk.injEq] at H
                  obtain ⟨rfl, rfl⟩ := H
                  go_wp2
                  go_ret2
                  exact ⟨by first | rfl | (simp; done) | (simp [*]; done), by repeat (first | exact Drawn0.refl _ | apply Drawn0.step)⟩
                · replace c15 := Bool.eq_false_iff.mpr c15
                  subst c15
                  have H1 : (scan_Whole.l0 kj9 x0_6 x4_2 0 (x0_6.size : Int) 0) = some (r1, r2) := by rw [if_neg (show ¬ (false = true) by decide)] at H; exact H
                  clear H
                  have H := H1
                  clear H1
                  have H' := Aside0.mk H
                  clear H
                  go_wp2
                  go_loopg [5, 35] kj9 (fun kq v5 v35 w' => ∃ (x5_4 : Int) (x35_4 : Int), v5 = .int .i64 x5_4 ∧ v35 = .int .i64 x35_4 ∧ Aside0 (scan_Whole.l0 kq x0_6 x4_2 x5_4 (x0_6.size : Int) x35_4 = some (r1, r2)) ∧ Aside0 (kq ≤ kj9) ∧ Drawn0 w w')
                  case atStart => exact ⟨(0), (0), (by first | rfl | (simp; done) | (simp [*]; done)), (by first | rfl | (simp; done) | (simp [*]; done)), H', ⟨Nat.le_refl _⟩, by repeat (first | exact Drawn0.refl _ | apply Drawn0.step)⟩
                  case round =>
                    clear H'
                    try clear c1
                    try clear p1
                    try clear q1
                    try clear hx1
                    try clear qi1
                    try clear c2
                    try clear c2b0
                    try clear c2b1
                    try clear p2
                    try clear c4
                    try clear c4b0
                    try clear c4b1
                    try clear c5
                    try clear c5b0
                    try clear c5b1
                    try clear c6
                    try clear p6
                    try clear q6
                    try clear hx6
                    try clear qi6
                    try clear c8
                    try clear c9
                    try clear c9b0
                    try clear c9b1
                    try clear c11
                    try clear c11b0
                    try clear c11b1
                    try clear c12
                    try clear c12b0
                    try clear c12b1
                    try clear c13
                    try clear c13b0
                    try clear c13b1
                    try clear c14
                    try clear p14
                    try clear q14
                    try clear hx14
                    try clear qi14
                    try clear c15
                    try clear p1
                    try clear p14
                    try clear p2
                    try clear p6
                    try clear q1
                    try clear q14
                    try clear q6
                    obtain ⟨x5_4, x35_4, rfl, rfl, HA, HK4, ⟨m4, rfl⟩⟩ := hrel
                    cases gk with
                    | zero => exact absurd HA.out (by simp [scan_Whole.l0])
                    | succ k4 =>
                      have H := HA.out
                      clear HA
                      simp only [scan_Whole.l0] at H
                      by_cases c16 : x35_4 < (x0_6.size : Int)
                      · rw [if_pos c16] at H
                        have c16b0 : decide (x35_4 < (x0_6.size : Int)) = true := decide_eq_true c16
                        clear c16
                        by_cases c17 : 0 ≤ x35_4
                        · rw [if_pos c17] at H
                          have c17b0 : decide (0 ≤ x35_4) = true := decide_eq_true c17
                          clear c17
                          by_cases c18 : x35_4 < (x0_6.size : Int)
                          · rw [if_pos c18] at H
                            have c18b0 : decide (x35_4 < (x0_6.size : Int)) = true := decide_eq_true c18
                            clear c18
                            by_cases c20 : (bt x0_6 x35_4) < 48
                            · rw [if_pos c20] at H
                              have c20b0 : decide ((bt x0_6 x35_4) < 48) = true := decide_eq_true c20
                              clear c20
                              simp only [Option.some.injEq, Prod.mk.injEq] at H
                              obtain ⟨rfl, rfl⟩ := H
                              have p19 : 0 ≤ (x35_4 : Int) := of_decide_eq_true (by first | (with_reducible assumption) | assumption)
                              have q19 : x35_4 < (x0_6.size : Int) := of_decide_eq_true (by first | (with_reducible assumption) | assumption)
                              have hx19 := bt_at x0_6 x35_4
                              replace p19 := eq_true p19
                              replace q19 := eq_true q19
                              go_wp2
                              go_ret2
                              exact ⟨by first | rfl | (simp; done) | (simp [*]; done), by repeat (first | exact Drawn0.refl _ | apply Drawn0.step)⟩
                            · rw [if_neg c20] at H
                              have c20b0 : decide ((bt x0_6 x35_4) < 48) = false := decide_eq_false c20
                              clear c20
                              by_cases c22 : (bt x0_6 x35_4) > 57
                              · rw [if_pos c22] at H
                                have c22b0 : decide (57 < (bt x0_6 x35_4)) = true := decide_eq_true c22
                                clear c22
                                simp only [Option.some.injEq, Prod.mk.injEq] at H
                                obtain ⟨rfl, rfl⟩ := H
                                have p19 : 0 ≤ (x35_4 : Int) := of_decide_eq_true (by first | (with_reducible assumption) | assumption)
                                have q19 : x35_4 < (x0_6.size : Int) := of_decide_eq_true (by first | (with_reducible assumption) | assumption)
                                have hx19 := bt_at x0_6 x35_4
                                replace p19 := eq_true p19
                                replace q19 := eq_true q19
                                have p21 : 0 ≤ (x35_4 : Int) := of_decide_eq_true (by first | (with_reducible assumption) | assumption)
                                have q21 : x35_4 < (x0_6.size : Int) := of_decide_eq_true (by first | (with_reducible assumption) | assumption)
                                have hx21 := bt_at x0_6 x35_4
                                replace p21 := eq_true p21
                                replace q21 := eq_true q21
                                go_wp2
                                go_ret2
                                exact ⟨by first | rfl | (simp; done) | (simp [*]; done), by repeat (first | exact Drawn0.refl _ | apply Drawn0.step)⟩
                              · rw [if_neg c22] at H
                                have c22b0 : decide (57 < (bt x0_6 x35_4)) = false := decide_eq_false c22
                                clear c22
                                have H' := Aside0.mk H
                                clear H
                                have p19 : 0 ≤ (x35_4 : Int) := of_decide_eq_true (by first | (with_reducible assumption) | assumption)
                                have q19 : x35_4 < (x0_6.size : Int) := of_decide_eq_true (by first | (with_reducible assumption) | assumption)
                                have hx19 := bt_at x0_6 x35_4
                                replace p19 := eq_true p19
                                replace q19 := eq_true q19
                                have p21 : 0 ≤ (x35_4 : Int) := of_decide_eq_true (by first | (with_reducible assumption) | assumption)
                                have q21 : x35_4 < (x0_6.size : Int) := of_decide_eq_true (by first | (with_reducible assumption) | assumption)
                                have hx21 := bt_at x0_6 x35_4
                                replace p21 := eq_true p21
                                replace q21 := eq_true q21
                                have p23 : 0 ≤ (x35_4 : Int) := of_decide_eq_true (by first | (with_reducible assumption) | assumption)
                                have q23 : x35_4 < (x0_6.size : Int) := of_decide_eq_true (by first | (with_reducible assumption) | assumption)
                                have hx23 := bt_at x0_6 x35_4
                                replace p23 := eq_true p23
                                replace q23 := eq_true q23
                                go_wp2
                                go_roundg k4
                                case measure => have := HJ2.out; have := HJ6.out; have := HJ9.out; have := HK4.out; omega
                                case rel => exact ⟨(wrap64 ((wrap64 (10 * x5_4)) + (((bt x0_6 x35_4) - 48) % 256))), (wrap64 (x35_4 + 1)), (by first | rfl | (simp; done) | (simp [*]; done)), (by first | rfl | (simp; done) | (simp [*]; done)), H', ⟨by have := HJ2.out; have := HJ6.out; have := HJ9.out; have := HK4.out; omega⟩, by repeat (first | exact Drawn0.refl _ | apply Drawn0.step)⟩
                          · rw [if_neg c18] at H
                            exact absurd H (by simp)
                        · rw [if_neg c17] at H
                          exact absurd H (by simp)
                      · rw [if_neg c16] at H
                        have c16b0 : decide (x35_4 < (x0_6.size : Int)) = false := decide_eq_false c16
                        clear c16
                        by_cases c24 : x4_2 = true
                        · subst c24
                          have H1 : (some (wrap64 (-x5_4), true)) = some (r1, r2) := by rw [if_pos rfl] at H; exact H
                          clear H
                          have H := H1
                          clear H1
                          simp only [Option.some.injEq, Prod.mk.injEq] at H
                          obtain ⟨rfl, rfl⟩ := H
                          go_wp2
                          go_ret2
                          exact ⟨by first | rfl | (simp; done) | (simp [*]; done), by repeat (first | exact Drawn0.refl _ | apply Drawn0.step)⟩
                        · replace c24 := Bool.eq_false_iff.mpr c24
                          subst c24
                          have H1 : (some (x5_4, true)) = some (r1, r2) := by rw [if_neg (show ¬ (false = true) by decide)] at H; exact H
                          clear H
                          have H := H1
                          clear H1
                          simp only [Option.some.injEq, Prod.mk.injEq] at H
                          obtain ⟨rfl, rfl⟩ := H
                          go_wp2
                          go_ret2
                          exact ⟨by first | rfl | (simp; done) | (simp [*]; done), by repeat (first | exact Drawn0.refl _ | apply Drawn0.step)⟩

end Go.Proofs.YtplnakmpogepmabDoor.A
