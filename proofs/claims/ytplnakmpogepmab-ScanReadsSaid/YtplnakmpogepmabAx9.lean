-- written by wip/pp.py of this session (the kit's print with patches); checked by Lean alone
import Derived.Test.YtplnakmpogepmabAx0
import Derived.Test.YtplnakmpogepmabAx2
import Derived.Test.YtplnakmpogepmabAx3
import Derived.Test.YtplnakmpogepmabAx4
import Derived.Test.YtplnakmpogepmabAx7
import Derived.Test.YtplnakmpogepmabAx8
namespace Go.Proofs.Ytplnakmpogepmab.A
open Go.RowKit Go.Proofs.YtplnakmpogepmabW.PrintWords Go.Proofs.YtplnakmpogepmabW.PrintLast Go.Proofs.YtplnakmpogepmabW.PrintMore
attribute [local go_sem] max2_int min2_int max_two min_two max_three min_three max_four min_four   -- for this text's walks alone
set_option linter.unusedVariables false
set_option linter.unusedSimpArgs false

/-! ### endonymlaw5_ScanReads: function 4 -/
mutual
def endonymlaw5_ScanReads.j0 : Nat → ByteArray → Bool → Option (Bool)
  | 0, _, _ => none
  | k + 1, x0, x34 => if x34 = true then (some false) else ((scan_Span.f k x0).bind fun bt206 => ((endonymref5_Span.f k x0).bind fun bt209 => (if bt206.1 = bt209.1 then (if bt206.2.1 = bt209.2.1 then (endonymlaw5_ScanReads.j1 k x0 (bt206.2.2 != bt209.2.2)) else (endonymlaw5_ScanReads.j1 k x0 true)) else (endonymlaw5_ScanReads.j1 k x0 true))))
def endonymlaw5_ScanReads.j1 : Nat → ByteArray → Bool → Option (Bool)
  | 0, _, _ => none
  | k + 1, x0, x59 => if x59 = true then (some false) else ((scan_Whole.f k x0).bind fun bt212 => ((endonymref5_Whole.f k x0).bind fun bt214 => (if bt212.1 = bt214.1 then (if (bt212.2 == bt214.2) = true then ((scan_Name.f k x0).bind fun t216 => ((endonymref5_Name.f k x0).bind fun t217 => (some (t216 == t217)))) else (some false)) else (some false))))
end
def endonymlaw5_ScanReads.f (k : Nat) (a0 : ByteArray) : Option (Bool) := (scan_Code.f k a0).bind fun bt201 => ((endonymref5_Code.f k a0).bind fun bt203 => ((endonymlaw5_told.f k).bind fun t205 => (if t205 = true then (if bt201.1 = bt203.1 then (endonymlaw5_ScanReads.j0 k a0 (bt201.2 != bt203.2)) else (endonymlaw5_ScanReads.j0 k a0 true)) else (endonymlaw5_ScanReads.j0 k a0 true))))
theorem endonymlaw5_ScanReads.mono_l : ∀ k, (∀ y0 y1, LeO (endonymlaw5_ScanReads.j0 k y0 y1) (endonymlaw5_ScanReads.j0 (k + 1) y0 y1)) ∧ (∀ y0 y1, LeO (endonymlaw5_ScanReads.j1 k y0 y1) (endonymlaw5_ScanReads.j1 (k + 1) y0 y1))
  | 0 => ⟨fun _ _ r h => by simp [endonymlaw5_ScanReads.j0] at h, fun _ _ r h => by simp [endonymlaw5_ScanReads.j1] at h⟩
  | k + 1 => by
    obtain ⟨ih0, ih1⟩ := endonymlaw5_ScanReads.mono_l k
    refine ⟨?_, ?_⟩
    · intro y0 y1
      unfold endonymlaw5_ScanReads.j0
      repeat' first
      | (with_reducible exact ih0 _ _)
      | (with_reducible exact ih1 _ _)
      | (with_reducible exact endonymlaw5_told.mono _)
      | (with_reducible exact endonymref5_Code.mono _ _)
      | (with_reducible exact endonymref5_Name.mono _ _)
      | (with_reducible exact endonymref5_Span.mono _ _)
      | (with_reducible exact endonymref5_Whole.mono _ _)
      | (with_reducible exact scan_Code.mono _ _)
      | (with_reducible exact scan_Name.mono _ _)
      | (with_reducible exact scan_Span.mono _ _)
      | (with_reducible exact scan_Whole.mono _ _)
      | (with_reducible exact LeO.refl _)
      | (with_reducible exact LeO.none _)
      | (with_reducible refine LeO.ite ?_ ?_)
      | (with_reducible refine LeO.bind ?_ (fun _ => ?_))
      | exact ih0 _ _
      | exact ih1 _ _
      | exact endonymlaw5_told.mono _
      | exact endonymref5_Code.mono _ _
      | exact endonymref5_Name.mono _ _
      | exact endonymref5_Span.mono _ _
      | exact endonymref5_Whole.mono _ _
      | exact scan_Code.mono _ _
      | exact scan_Name.mono _ _
      | exact scan_Span.mono _ _
      | exact scan_Whole.mono _ _
      | exact LeO.none _
      | refine LeO.ite ?_ ?_
      | refine LeO.bind ?_ (fun _ => ?_)
    · intro y0 y1
      unfold endonymlaw5_ScanReads.j1
      repeat' first
      | (with_reducible exact ih0 _ _)
      | (with_reducible exact ih1 _ _)
      | (with_reducible exact endonymlaw5_told.mono _)
      | (with_reducible exact endonymref5_Code.mono _ _)
      | (with_reducible exact endonymref5_Name.mono _ _)
      | (with_reducible exact endonymref5_Span.mono _ _)
      | (with_reducible exact endonymref5_Whole.mono _ _)
      | (with_reducible exact scan_Code.mono _ _)
      | (with_reducible exact scan_Name.mono _ _)
      | (with_reducible exact scan_Span.mono _ _)
      | (with_reducible exact scan_Whole.mono _ _)
      | (with_reducible exact LeO.refl _)
      | (with_reducible exact LeO.none _)
      | (with_reducible refine LeO.ite ?_ ?_)
      | (with_reducible refine LeO.bind ?_ (fun _ => ?_))
      | exact ih0 _ _
      | exact ih1 _ _
      | exact endonymlaw5_told.mono _
      | exact endonymref5_Code.mono _ _
      | exact endonymref5_Name.mono _ _
      | exact endonymref5_Span.mono _ _
      | exact endonymref5_Whole.mono _ _
      | exact scan_Code.mono _ _
      | exact scan_Name.mono _ _
      | exact scan_Span.mono _ _
      | exact scan_Whole.mono _ _
      | exact LeO.none _
      | refine LeO.ite ?_ ?_
      | refine LeO.bind ?_ (fun _ => ?_)
theorem endonymlaw5_ScanReads.mono : ∀ a0 k, LeO (endonymlaw5_ScanReads.f k a0) (endonymlaw5_ScanReads.f (k + 1) a0) := by
  intro a0 k
  obtain ⟨ih0, ih1⟩ := endonymlaw5_ScanReads.mono_l k
  unfold endonymlaw5_ScanReads.f
  repeat' first
      | (with_reducible exact ih0 _ _)
      | (with_reducible exact ih1 _ _)
      | (with_reducible exact endonymlaw5_told.mono _)
      | (with_reducible exact endonymref5_Code.mono _ _)
      | (with_reducible exact endonymref5_Name.mono _ _)
      | (with_reducible exact endonymref5_Span.mono _ _)
      | (with_reducible exact endonymref5_Whole.mono _ _)
      | (with_reducible exact scan_Code.mono _ _)
      | (with_reducible exact scan_Name.mono _ _)
      | (with_reducible exact scan_Span.mono _ _)
      | (with_reducible exact scan_Whole.mono _ _)
      | (with_reducible exact LeO.refl _)
      | (with_reducible exact LeO.none _)
      | (with_reducible refine LeO.ite ?_ ?_)
      | (with_reducible refine LeO.bind ?_ (fun _ => ?_))
      | exact ih0 _ _
      | exact ih1 _ _
      | exact endonymlaw5_told.mono _
      | exact endonymref5_Code.mono _ _
      | exact endonymref5_Name.mono _ _
      | exact endonymref5_Span.mono _ _
      | exact endonymref5_Whole.mono _ _
      | exact scan_Code.mono _ _
      | exact scan_Name.mono _ _
      | exact scan_Span.mono _ _
      | exact scan_Whole.mono _ _
      | exact LeO.none _
      | refine LeO.ite ?_ ?_
      | refine LeO.bind ?_ (fun _ => ?_)
set_option maxHeartbeats 8000000 in
set_option maxRecDepth 100000 in
theorem endonymlaw5_ScanReads.calls (k : Nat) (a0 : ByteArray) (r : Bool) (w : World) (h : endonymlaw5_ScanReads.f k a0 = some r) :
    Calls Try.prog 4 #[.string a0] w fun e w' => e = .returned (.bool r) ∧ Below w.heap.size w w' := by
  have HB := Aside0.mk (Below.refl w.heap.size w)
  have H : ((scan_Code.f k a0).bind fun bt201 => ((endonymref5_Code.f k a0).bind fun bt203 => ((endonymlaw5_told.f k).bind fun t205 => (if t205 = true then (if bt201.1 = bt203.1 then (endonymlaw5_ScanReads.j0 k a0 (bt201.2 != bt203.2)) else (endonymlaw5_ScanReads.j0 k a0 true)) else (endonymlaw5_ScanReads.j0 k a0 true))))) = some r := h
  clear h
  replace H := Option.bind_eq_some_iff.mp H
  obtain ⟨⟨t201, t202⟩, A20, H⟩ := H
  replace H : ((endonymref5_Code.f k a0).bind fun bt203 => ((endonymlaw5_told.f k).bind fun t205 => (if t205 = true then (if t201 = bt203.1 then (endonymlaw5_ScanReads.j0 k a0 (t202 != bt203.2)) else (endonymlaw5_ScanReads.j0 k a0 true)) else (endonymlaw5_ScanReads.j0 k a0 true)))) = some r := H
  have A2 := Aside0.mk A20
  clear A20
  replace H := Option.bind_eq_some_iff.mp H
  obtain ⟨⟨t203, t204⟩, A30, H⟩ := H
  replace H : ((endonymlaw5_told.f k).bind fun t205 => (if t205 = true then (if t201 = t203 then (endonymlaw5_ScanReads.j0 k a0 (t202 != t204)) else (endonymlaw5_ScanReads.j0 k a0 true)) else (endonymlaw5_ScanReads.j0 k a0 true))) = some r := H
  have A3 := Aside0.mk A30
  clear A30
  have HC4 := Aside0.mk H
  clear H
  go_enter Try.func4, Try.ntmps4
  go_upto_region 3 with (first | ((with_reducible refine gate_callee (f := 13) rfl ?_); refine goesL_ (some 15) rfl rfl Try.func13 (by kernel_rfl) rfl #[.string a0] rfl (by (try simp only [List.map_toArray, List.map_cons, List.map_nil]); first | done | rfl | (simp only [List.length_drop, List.length_take]; rfl)) ?_; (with_reducible refine (scan_Code.calls k a0 t201 t202 _ A2.out).mono ?_); rintro e w' ⟨rfl, ⟨nd, rfl⟩⟩; refine ⟨_, rfl, ?_⟩) | ((with_reducible refine gate_callee (f := 14) rfl ?_); refine goesL_ (some 20) rfl rfl Try.func14 (by kernel_rfl) rfl #[.string a0] rfl (by (try simp only [List.map_toArray, List.map_cons, List.map_nil]); first | done | rfl | (simp only [List.length_drop, List.length_take]; rfl)) ?_; (with_reducible refine (endonymref5_Code.calls k a0 t203 t204 _ A3.out).mono ?_); rintro e w' ⟨rfl, ⟨nd, rfl⟩⟩; refine ⟨_, rfl, ?_⟩))
  (try simp only [Act.put, List.setIfInBounds_toArray, List.set_cons_zero, List.set_cons_succ])
  go_cut [34] (fun v34 wc => ∃ (kq : Nat) (x34_3 : Bool), v34 = .bool x34_3 ∧ Aside0 (endonymlaw5_ScanReads.j0 kq a0 x34_3 = some r) ∧ Aside0 (kq ≤ k) ∧ Aside0 (Below w.heap.size w wc))
  case first =>
    have H := HC4.out
    clear HC4
    replace H := Option.bind_eq_some_iff.mp H
    obtain ⟨t205, A50, H⟩ := H
    replace H : (if t205 = true then (if t201 = t203 then (endonymlaw5_ScanReads.j0 k a0 (t202 != t204)) else (endonymlaw5_ScanReads.j0 k a0 true)) else (endonymlaw5_ScanReads.j0 k a0 true)) = some r := H
    have A5 := Aside0.mk A50
    clear A50
    by_cases c6 : t205 = true
    · subst c6
      have H1 : (if t201 = t203 then (endonymlaw5_ScanReads.j0 k a0 (t202 != t204)) else (endonymlaw5_ScanReads.j0 k a0 true)) = some r := by rw [if_pos rfl] at H; exact H
      clear H
      have H := H1
      clear H1
      by_cases c7 : t201 = t203
      · rw [if_pos c7] at H
        have c7b0 : (t201 == t203) = true := beq_iff_eq.mpr c7
        have c7b1 : (t201 != t203) = false := bne_eq_false_iff_eq.mpr c7
        clear c7
        (first | rw [c7b0] | (simp only [i64_w, i32_w]; rw [c7b0]) | skip)
        have H' := Aside0.mk H
        clear H
        go_wp2_with (first | ((with_reducible refine gate_callee (f := 8) rfl ?_); refine goesL_ (some 23) rfl rfl Try.func8 (by kernel_rfl) rfl #[] rfl (by (try simp only [List.map_toArray, List.map_cons, List.map_nil]); first | done | rfl | (simp only [List.length_drop, List.length_take]; rfl)) ?_; (with_reducible refine (endonymlaw5_told.calls k  true _ A5.out).mono ?_); rintro e w8 ⟨rfl, hb⟩; refine ⟨_, rfl, ?_⟩; have n0_ := Aside0.mk (below_step (by repeat (first | (with_reducible first | exact HB.out | apply below_alloc | apply pw_below_drewN | apply below_drew1) | exact HB.out)) hb); clear HB; have HB := n0_; clear n0_; (try clear hb); (try clear hb2); (try clear hk); (try clear hi)))
        go_meet
        case rel => exact ⟨_, ((t202 != t204)), (by first | rfl | (simp; done) | (simp [*]; done)), H', ⟨by first | omega | exact Nat.le_refl _⟩, ⟨by repeat (first | (with_reducible first | exact HB.out | apply below_alloc | apply pw_below_drewN | apply below_drew1) | exact HB.out)⟩⟩
      · rw [if_neg c7] at H
        have c7b0 : (t201 == t203) = false := beq_eq_false_iff_ne.mpr c7
        have c7b1 : (t201 != t203) = true := bne_iff_ne.mpr c7
        (first | rw [c7b0] | (simp only [i64_w, i32_w]; rw [c7b0]) | skip)
        have H' := Aside0.mk H
        clear H
        go_wp2_with (first | ((with_reducible refine gate_callee (f := 8) rfl ?_); refine goesL_ (some 23) rfl rfl Try.func8 (by kernel_rfl) rfl #[] rfl (by (try simp only [List.map_toArray, List.map_cons, List.map_nil]); first | done | rfl | (simp only [List.length_drop, List.length_take]; rfl)) ?_; (with_reducible refine (endonymlaw5_told.calls k  true _ A5.out).mono ?_); rintro e w9 ⟨rfl, hb⟩; refine ⟨_, rfl, ?_⟩; have n0_ := Aside0.mk (below_step (by repeat (first | (with_reducible first | exact HB.out | apply below_alloc | apply pw_below_drewN | apply below_drew1) | exact HB.out)) hb); clear HB; have HB := n0_; clear n0_; (try clear hb); (try clear hb2); (try clear hk); (try clear hi)))
        go_meet
        case rel => exact ⟨_, (true), (by first | rfl | (simp; done) | (simp [*]; done)), H', ⟨by first | omega | exact Nat.le_refl _⟩, ⟨by repeat (first | (with_reducible first | exact HB.out | apply below_alloc | apply pw_below_drewN | apply below_drew1) | exact HB.out)⟩⟩
    · replace c6 := Bool.eq_false_iff.mpr c6
      subst c6
      have H1 : (endonymlaw5_ScanReads.j0 k a0 true) = some r := by rw [if_neg (show ¬ (false = true) by decide)] at H; exact H
      clear H
      have H := H1
      clear H1
      have H' := Aside0.mk H
      clear H
      go_wp2_with (first | ((with_reducible refine gate_callee (f := 8) rfl ?_); refine goesL_ (some 23) rfl rfl Try.func8 (by kernel_rfl) rfl #[] rfl (by (try simp only [List.map_toArray, List.map_cons, List.map_nil]); first | done | rfl | (simp only [List.length_drop, List.length_take]; rfl)) ?_; (with_reducible refine (endonymlaw5_told.calls k  false _ A5.out).mono ?_); rintro e w10 ⟨rfl, hb⟩; refine ⟨_, rfl, ?_⟩; have n0_ := Aside0.mk (below_step (by repeat (first | (with_reducible first | exact HB.out | apply below_alloc | apply pw_below_drewN | apply below_drew1) | exact HB.out)) hb); clear HB; have HB := n0_; clear n0_; (try clear hb); (try clear hb2); (try clear hk); (try clear hi)))
      go_meet
      case rel => exact ⟨_, (true), (by first | rfl | (simp; done) | (simp [*]; done)), H', ⟨by first | omega | exact Nat.le_refl _⟩, ⟨by repeat (first | (with_reducible first | exact HB.out | apply below_alloc | apply pw_below_drewN | apply below_drew1) | exact HB.out)⟩⟩
  case rest =>
    clear HC4
    try clear c1
    try clear p2
    try clear c4
    try clear c6
    try clear c7
    try clear c7b0
    try clear c7b1
    try clear c8
    obtain ⟨kq, x34_3, rfl, HA, HJ3, HB⟩ := hcut
    cases kq with
    | zero => exact absurd HA.out (by simp [endonymlaw5_ScanReads.j0])
    | succ kj3 =>
      have H := HA.out
      clear HA
      simp only [endonymlaw5_ScanReads.j0] at H
      by_cases c11 : x34_3 = true
      · subst c11
        have H1 : (some false) = some r := by rw [if_pos rfl] at H; exact H
        clear H
        have H := H1
        clear H1
        obtain rfl := Option.some.inj H
        go_wp2
        go_ret
        exact ⟨by first | rfl | (simp [errW_none, errW_some] <;> rfl) | (simp [*, errW_none, errW_some] <;> rfl), by repeat (first | (with_reducible first | exact HB.out | apply below_alloc | apply pw_below_drewN | apply below_drew1) | exact HB.out)⟩
      · replace c11 := Bool.eq_false_iff.mpr c11
        subst c11
        have H1 : ((scan_Span.f kj3 a0).bind fun bt206 => ((endonymref5_Span.f kj3 a0).bind fun bt209 => (if bt206.1 = bt209.1 then (if bt206.2.1 = bt209.2.1 then (endonymlaw5_ScanReads.j1 kj3 a0 (bt206.2.2 != bt209.2.2)) else (endonymlaw5_ScanReads.j1 kj3 a0 true)) else (endonymlaw5_ScanReads.j1 kj3 a0 true)))) = some r := by rw [if_neg (show ¬ (false = true) by decide)] at H; exact H
        clear H
        have H := H1
        clear H1
        replace H := Option.bind_eq_some_iff.mp H
        obtain ⟨⟨t206, t207, t208⟩, A120, H⟩ := H
        replace H : ((endonymref5_Span.f kj3 a0).bind fun bt209 => (if t206 = bt209.1 then (if t207 = bt209.2.1 then (endonymlaw5_ScanReads.j1 kj3 a0 (t208 != bt209.2.2)) else (endonymlaw5_ScanReads.j1 kj3 a0 true)) else (endonymlaw5_ScanReads.j1 kj3 a0 true))) = some r := H
        have A12 := Aside0.mk A120
        clear A120
        replace H := Option.bind_eq_some_iff.mp H
        obtain ⟨⟨t209, t210, t211⟩, A130, H⟩ := H
        replace H : (if t206 = t209 then (if t207 = t210 then (endonymlaw5_ScanReads.j1 kj3 a0 (t208 != t211)) else (endonymlaw5_ScanReads.j1 kj3 a0 true)) else (endonymlaw5_ScanReads.j1 kj3 a0 true)) = some r := H
        have A13 := Aside0.mk A130
        clear A130
        have HC14 := Aside0.mk H
        clear H
        go_upto_region 7 with (first | ((with_reducible refine gate_callee (f := 15) rfl ?_); refine goesL_ (some 37) rfl rfl Try.func15 (by kernel_rfl) rfl #[.string a0] rfl (by (try simp only [List.map_toArray, List.map_cons, List.map_nil]); first | done | rfl | (simp only [List.length_drop, List.length_take]; rfl)) ?_; (with_reducible refine (scan_Span.calls kj3 a0 t206 t207 t208 _ A12.out).mono ?_); rintro e w' ⟨rfl, ⟨nd, rfl⟩⟩; refine ⟨_, rfl, ?_⟩) | ((with_reducible refine gate_callee (f := 16) rfl ?_); refine goesL_ (some 43) rfl rfl Try.func16 (by kernel_rfl) rfl #[.string a0] rfl (by (try simp only [List.map_toArray, List.map_cons, List.map_nil]); first | done | rfl | (simp only [List.length_drop, List.length_take]; rfl)) ?_; (with_reducible refine (endonymref5_Span.calls kj3 a0 t209 t210 t211 _ A13.out).mono ?_); rintro e w' ⟨rfl, ⟨nd, rfl⟩⟩; refine ⟨_, rfl, ?_⟩))
        (try simp only [Act.put, List.setIfInBounds_toArray, List.set_cons_zero, List.set_cons_succ])
        go_cut [59] (fun v59 wc => ∃ (kq : Nat) (x59_13 : Bool), v59 = .bool x59_13 ∧ Aside0 (endonymlaw5_ScanReads.j1 kq a0 x59_13 = some r) ∧ Aside0 (kq ≤ kj3) ∧ Aside0 (Below w.heap.size w wc))
        case first =>
          have H := HC14.out
          clear HC14
          by_cases c15 : t206 = t209
          · rw [if_pos c15] at H
            have c15b0 : (t206 == t209) = true := beq_iff_eq.mpr c15
            have c15b1 : (t206 != t209) = false := bne_eq_false_iff_eq.mpr c15
            clear c15
            (first | rw [c15b0] | (simp only [i64_w, i32_w]; rw [c15b0]) | skip)
            by_cases c16 : t207 = t210
            · rw [if_pos c16] at H
              have c16b0 : (t207 == t210) = true := beq_iff_eq.mpr c16
              have c16b1 : (t207 != t210) = false := bne_eq_false_iff_eq.mpr c16
              clear c16
              have H' := Aside0.mk H
              clear H
              go_wp2
              go_meet
              case rel => exact ⟨_, ((t208 != t211)), (by first | rfl | (simp; done) | (simp [*]; done)), H', ⟨by have := HJ3.out; first | omega | exact Nat.le_refl _⟩, ⟨by repeat (first | (with_reducible first | exact HB.out | apply below_alloc | apply pw_below_drewN | apply below_drew1) | exact HB.out)⟩⟩
            · rw [if_neg c16] at H
              have c16b0 : (t207 == t210) = false := beq_eq_false_iff_ne.mpr c16
              have c16b1 : (t207 != t210) = true := bne_iff_ne.mpr c16
              have H' := Aside0.mk H
              clear H
              go_wp2
              go_meet
              case rel => exact ⟨_, (true), (by first | rfl | (simp; done) | (simp [*]; done)), H', ⟨by have := HJ3.out; first | omega | exact Nat.le_refl _⟩, ⟨by repeat (first | (with_reducible first | exact HB.out | apply below_alloc | apply pw_below_drewN | apply below_drew1) | exact HB.out)⟩⟩
          · rw [if_neg c15] at H
            have c15b0 : (t206 == t209) = false := beq_eq_false_iff_ne.mpr c15
            have c15b1 : (t206 != t209) = true := bne_iff_ne.mpr c15
            (first | rw [c15b0] | (simp only [i64_w, i32_w]; rw [c15b0]) | skip)
            have H' := Aside0.mk H
            clear H
            go_wp2
            go_meet
            case rel => exact ⟨_, (true), (by first | rfl | (simp; done) | (simp [*]; done)), H', ⟨by have := HJ3.out; first | omega | exact Nat.le_refl _⟩, ⟨by repeat (first | (with_reducible first | exact HB.out | apply below_alloc | apply pw_below_drewN | apply below_drew1) | exact HB.out)⟩⟩
        case rest =>
          clear HC14
          try clear c1
          try clear p2
          try clear c4
          try clear c6
          try clear c7
          try clear c7b0
          try clear c7b1
          try clear c8
          try clear c11
          try clear c13
          try clear c14
          try clear c15
          try clear c15b0
          try clear c15b1
          try clear c16
          try clear c16b0
          try clear c16b1
          try clear p2
          obtain ⟨kq, x59_13, rfl, HA, HJ13, HB⟩ := hcut
          cases kq with
          | zero => exact absurd HA.out (by simp [endonymlaw5_ScanReads.j1])
          | succ kj13 =>
            have H := HA.out
            clear HA
            simp only [endonymlaw5_ScanReads.j1] at H
            by_cases c17 : x59_13 = true
            · subst c17
              have H1 : (some false) = some r := by rw [if_pos rfl] at H; exact H
              clear H
              have H := H1
              clear H1
              obtain rfl := Option.some.inj H
              go_wp2
              go_ret
              exact ⟨by first | rfl | (simp [errW_none, errW_some] <;> rfl) | (simp [*, errW_none, errW_some] <;> rfl), by repeat (first | (with_reducible first | exact HB.out | apply below_alloc | apply pw_below_drewN | apply below_drew1) | exact HB.out)⟩
            · replace c17 := Bool.eq_false_iff.mpr c17
              subst c17
              have H1 : ((scan_Whole.f kj13 a0).bind fun bt212 => ((endonymref5_Whole.f kj13 a0).bind fun bt214 => (if bt212.1 = bt214.1 then (if (bt212.2 == bt214.2) = true then ((scan_Name.f kj13 a0).bind fun t216 => ((endonymref5_Name.f kj13 a0).bind fun t217 => (some (t216 == t217)))) else (some false)) else (some false)))) = some r := by rw [if_neg (show ¬ (false = true) by decide)] at H; exact H
              clear H
              have H := H1
              clear H1
              replace H := Option.bind_eq_some_iff.mp H
              obtain ⟨⟨t212, t213⟩, A180, H⟩ := H
              replace H : ((endonymref5_Whole.f kj13 a0).bind fun bt214 => (if t212 = bt214.1 then (if (t213 == bt214.2) = true then ((scan_Name.f kj13 a0).bind fun t216 => ((endonymref5_Name.f kj13 a0).bind fun t217 => (some (t216 == t217)))) else (some false)) else (some false))) = some r := H
              have A18 := Aside0.mk A180
              clear A180
              replace H := Option.bind_eq_some_iff.mp H
              obtain ⟨⟨t214, t215⟩, A190, H⟩ := H
              replace H : (if t212 = t214 then (if (t213 == t215) = true then ((scan_Name.f kj13 a0).bind fun t216 => ((endonymref5_Name.f kj13 a0).bind fun t217 => (some (t216 == t217)))) else (some false)) else (some false)) = some r := H
              have A19 := Aside0.mk A190
              clear A190
              by_cases c20 : t212 = t214
              · rw [if_pos c20] at H
                have c20b0 : (t212 == t214) = true := beq_iff_eq.mpr c20
                have c20b1 : (t212 != t214) = false := bne_eq_false_iff_eq.mpr c20
                clear c20
                by_cases c21 : (t213 == t215) = true
                · rw [if_pos c21] at H
                  have c21b0 : (t213 == t215) = true := c21
                  (try (have c21b1 : decide (t213 = t215) = true := by simpa using c21))
                  (try (have c21b2 : (t213 == t215) = true := by simpa using c21))
                  clear c21
                  replace H := Option.bind_eq_some_iff.mp H
                  obtain ⟨t216, A220, H⟩ := H
                  replace H : ((endonymref5_Name.f kj13 a0).bind fun t217 => (some (t216 == t217))) = some r := H
                  have A22 := Aside0.mk A220
                  clear A220
                  replace H := Option.bind_eq_some_iff.mp H
                  obtain ⟨t217, A230, H⟩ := H
                  replace H : (some (t216 == t217)) = some r := H
                  have A23 := Aside0.mk A230
                  clear A230
                  obtain rfl := Option.some.inj H
                  go_wp2_with (first | ((with_reducible refine gate_callee (f := 17) rfl ?_); refine goesL_ (some 62) rfl rfl Try.func17 (by kernel_rfl) rfl #[.string a0] rfl (by (try simp only [List.map_toArray, List.map_cons, List.map_nil]); first | done | rfl | (simp only [List.length_drop, List.length_take]; rfl)) ?_; (with_reducible refine (scan_Whole.calls kj13 a0 t212 t213 _ A18.out).mono ?_); rintro e w' ⟨rfl, ⟨nd, rfl⟩⟩; refine ⟨_, rfl, ?_⟩) | ((with_reducible refine gate_callee (f := 18) rfl ?_); refine goesL_ (some 67) rfl rfl Try.func18 (by kernel_rfl) rfl #[.string a0] rfl (by (try simp only [List.map_toArray, List.map_cons, List.map_nil]); first | done | rfl | (simp only [List.length_drop, List.length_take]; rfl)) ?_; (with_reducible refine (endonymref5_Whole.calls kj13 a0 t214 t215 _ A19.out).mono ?_); rintro e w' ⟨rfl, ⟨nd, rfl⟩⟩; refine ⟨_, rfl, ?_⟩) | (go_at_call 19; (with_reducible refine (scan_Name.calls kj13 a0 t216 _ A22.out).mono ?_); rintro e w' ⟨rfl, ⟨nd, rfl⟩⟩) | (go_at_call 20; (with_reducible refine (endonymref5_Name.calls kj13 a0 t217 _ A23.out).mono ?_); rintro e w' ⟨rfl, ⟨nd, rfl⟩⟩))
                  go_ret
                  exact ⟨by first | rfl | (simp [errW_none, errW_some] <;> rfl) | (simp [*, errW_none, errW_some] <;> rfl), by repeat (first | (with_reducible first | exact HB.out | apply below_alloc | apply pw_below_drewN | apply below_drew1) | exact HB.out)⟩
                · rw [if_neg c21] at H
                  have c21b0 : (t213 == t215) = false := by simpa using c21
                  (try (have c21b1 : decide (t213 = t215) = false := by simpa using c21))
                  (try (have c21b2 : (t213 == t215) = false := by simpa using c21))
                  (try (have c21b3 : ¬ (t213 = t215) := by simpa using c21))
                  clear c21
                  obtain rfl := Option.some.inj H
                  go_wp2_with (first | ((with_reducible refine gate_callee (f := 17) rfl ?_); refine goesL_ (some 62) rfl rfl Try.func17 (by kernel_rfl) rfl #[.string a0] rfl (by (try simp only [List.map_toArray, List.map_cons, List.map_nil]); first | done | rfl | (simp only [List.length_drop, List.length_take]; rfl)) ?_; (with_reducible refine (scan_Whole.calls kj13 a0 t212 t213 _ A18.out).mono ?_); rintro e w' ⟨rfl, ⟨nd, rfl⟩⟩; refine ⟨_, rfl, ?_⟩) | ((with_reducible refine gate_callee (f := 18) rfl ?_); refine goesL_ (some 67) rfl rfl Try.func18 (by kernel_rfl) rfl #[.string a0] rfl (by (try simp only [List.map_toArray, List.map_cons, List.map_nil]); first | done | rfl | (simp only [List.length_drop, List.length_take]; rfl)) ?_; (with_reducible refine (endonymref5_Whole.calls kj13 a0 t214 t215 _ A19.out).mono ?_); rintro e w' ⟨rfl, ⟨nd, rfl⟩⟩; refine ⟨_, rfl, ?_⟩))
                  go_ret
                  exact ⟨by first | rfl | (simp [errW_none, errW_some] <;> rfl) | (simp [*, errW_none, errW_some] <;> rfl), by repeat (first | (with_reducible first | exact HB.out | apply below_alloc | apply pw_below_drewN | apply below_drew1) | exact HB.out)⟩
              · rw [if_neg c20] at H
                have c20b0 : (t212 == t214) = false := beq_eq_false_iff_ne.mpr c20
                have c20b1 : (t212 != t214) = true := bne_iff_ne.mpr c20
                obtain rfl := Option.some.inj H
                go_wp2_with (first | ((with_reducible refine gate_callee (f := 17) rfl ?_); refine goesL_ (some 62) rfl rfl Try.func17 (by kernel_rfl) rfl #[.string a0] rfl (by (try simp only [List.map_toArray, List.map_cons, List.map_nil]); first | done | rfl | (simp only [List.length_drop, List.length_take]; rfl)) ?_; (with_reducible refine (scan_Whole.calls kj13 a0 t212 t213 _ A18.out).mono ?_); rintro e w' ⟨rfl, ⟨nd, rfl⟩⟩; refine ⟨_, rfl, ?_⟩) | ((with_reducible refine gate_callee (f := 18) rfl ?_); refine goesL_ (some 67) rfl rfl Try.func18 (by kernel_rfl) rfl #[.string a0] rfl (by (try simp only [List.map_toArray, List.map_cons, List.map_nil]); first | done | rfl | (simp only [List.length_drop, List.length_take]; rfl)) ?_; (with_reducible refine (endonymref5_Whole.calls kj13 a0 t214 t215 _ A19.out).mono ?_); rintro e w' ⟨rfl, ⟨nd, rfl⟩⟩; refine ⟨_, rfl, ?_⟩))
                go_ret
                exact ⟨by first | rfl | (simp [errW_none, errW_some] <;> rfl) | (simp [*, errW_none, errW_some] <;> rfl), by repeat (first | (with_reducible first | exact HB.out | apply below_alloc | apply pw_below_drewN | apply below_drew1) | exact HB.out)⟩

end Go.Proofs.Ytplnakmpogepmab.A
