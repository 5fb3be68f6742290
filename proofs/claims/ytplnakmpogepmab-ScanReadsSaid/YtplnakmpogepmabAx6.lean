-- written by wip/pp.py of this session (the kit's print with patches); checked by Lean alone
import Derived.Test.YtplnakmpogepmabAx0
import Derived.Test.YtplnakmpogepmabAx1
import Derived.Test.YtplnakmpogepmabAx4
import Derived.Test.YtplnakmpogepmabAx5
namespace Go.Proofs.Ytplnakmpogepmab.A
open Go.RowKit Go.Proofs.YtplnakmpogepmabW.PrintWords Go.Proofs.YtplnakmpogepmabW.PrintLast Go.Proofs.YtplnakmpogepmabW.PrintMore
attribute [local go_sem] max2_int min2_int max_two min_two max_three min_three max_four min_four   -- for this text's walks alone
set_option linter.unusedVariables false
set_option linter.unusedSimpArgs false

/-! ### endonymlaw5_ScanLines: function 3 -/
mutual
def endonymlaw5_ScanLines.j0 : Nat → ByteArray → List ByteArray → List ByteArray → List ByteArray → Bool → Option (Bool)
  | 0, _, _, _, _, _ => none
  | k + 1, x0, x3, x4, x5, x27 => if x27 = true then (some false) else (endonymlaw5_ScanLines.l0 k x0 x3 x4 x5 0)
def endonymlaw5_ScanLines.l0 : Nat → ByteArray → List ByteArray → List ByteArray → List ByteArray → Int → Option (Bool)
  | 0, _, _, _, _, _ => none
  | k + 1, x0, x3, x4, x5, x6 => if x6 < (x3.length : Int) then (if 0 ≤ x6 then ((scan_Words.f k (rdOf ByteArray.empty x3 x6)).bind fun bt176 => (if x6 < (x5.length : Int) then ((endonymref5_Words.f k (rdOf ByteArray.empty x5 x6)).bind fun bt181 => ((scan_Words.f k (rdOf ByteArray.empty x3 x6)).bind fun bt186 => ((endonymlaw5_sameWords.f k bt176.1 bt181.1).bind fun t190 => (if t190 = true then (endonymlaw5_ScanLines.j2 k x0 x3 x4 x5 x6 bt176.1 bt181.1 bt186.1 (bt176.2 != bt181.2)) else (endonymlaw5_ScanLines.j2 k x0 x3 x4 x5 x6 bt176.1 bt181.1 bt186.1 true))))) else (none))) else (none)) else ((endonymlaw5_sameTexts.f k x4 x5).bind fun t170 => (if t170 = true then ((scan_Lines.f k x0).bind fun t171 => ((endonymlaw5_sameTexts.f k t171 x5).bind fun t174 => (some t174))) else (some false)))
def endonymlaw5_ScanLines.j2 : Nat → ByteArray → List ByteArray → List ByteArray → List ByteArray → Int → List (S34) → List (S48) → List (S34) → Bool → Option (Bool)
  | 0, _, _, _, _, _, _, _, _, _ => none
  | k + 1, x0, x3, x4, x5, x6, x7, x9, x11, x66 => if x66 = true then (some false) else (endonymlaw5_ScanLines.l1 k x0 x3 x4 x5 x6 x7 x9 x11 0)
def endonymlaw5_ScanLines.l1 : Nat → ByteArray → List ByteArray → List ByteArray → List ByteArray → Int → List (S34) → List (S48) → List (S34) → Int → Option (Bool)
  | 0, _, _, _, _, _, _, _, _, _ => none
  | k + 1, x0, x3, x4, x5, x6, x7, x9, x11, x13 => if x13 < (x7.length : Int) then (if 0 ≤ x13 then (endonymlaw5_ScanLines.l1 k x0 x3 x4 x5 x6 (x7.set (x13 : Int).toNat (⟨(⟨#[63]⟩ : ByteArray), (-1)⟩ : S34)) x9 x11 (wrap64 (x13 + 1))) else (none)) else (if 0 ≤ x6 then (if x6 < (x3.length : Int) then ((endonymlaw5_sameWords.f k x11 x9).bind fun t193 => (if t193 = true then (endonymlaw5_ScanLines.l0 k x0 (x3.set (x6 : Int).toNat (⟨#[63]⟩ : ByteArray)) x4 x5 (wrap64 (x6 + 1))) else (some false))) else (none)) else (none))
end
def endonymlaw5_ScanLines.f (k : Nat) (a0 : ByteArray) : Option (Bool) := (scan_Lines.f k a0).bind fun t159 => ((scan_Lines.f k a0).bind fun t162 => ((endonymref5_Lines.f k a0).bind fun t165 => ((endonymlaw5_told.f k).bind fun t168 => (if t168 = true then ((endonymlaw5_sameTexts.f k t159 t165).bind fun t169 => (endonymlaw5_ScanLines.j0 k a0 t159 t162 t165 (!t169))) else (endonymlaw5_ScanLines.j0 k a0 t159 t162 t165 true)))))
theorem endonymlaw5_ScanLines.mono_l : ∀ k, (∀ y0 y1 y2 y3 y4, LeO (endonymlaw5_ScanLines.j0 k y0 y1 y2 y3 y4) (endonymlaw5_ScanLines.j0 (k + 1) y0 y1 y2 y3 y4)) ∧ (∀ y0 y1 y2 y3 y4, LeO (endonymlaw5_ScanLines.l0 k y0 y1 y2 y3 y4) (endonymlaw5_ScanLines.l0 (k + 1) y0 y1 y2 y3 y4)) ∧ (∀ y0 y1 y2 y3 y4 y5 y6 y7 y8, LeO (endonymlaw5_ScanLines.j2 k y0 y1 y2 y3 y4 y5 y6 y7 y8) (endonymlaw5_ScanLines.j2 (k + 1) y0 y1 y2 y3 y4 y5 y6 y7 y8)) ∧ (∀ y0 y1 y2 y3 y4 y5 y6 y7 y8, LeO (endonymlaw5_ScanLines.l1 k y0 y1 y2 y3 y4 y5 y6 y7 y8) (endonymlaw5_ScanLines.l1 (k + 1) y0 y1 y2 y3 y4 y5 y6 y7 y8))
  | 0 => ⟨fun _ _ _ _ _ r h => by simp [endonymlaw5_ScanLines.j0] at h, fun _ _ _ _ _ r h => by simp [endonymlaw5_ScanLines.l0] at h, fun _ _ _ _ _ _ _ _ _ r h => by simp [endonymlaw5_ScanLines.j2] at h, fun _ _ _ _ _ _ _ _ _ r h => by simp [endonymlaw5_ScanLines.l1] at h⟩
  | k + 1 => by
    obtain ⟨ih0, ih1, ih2, ih3⟩ := endonymlaw5_ScanLines.mono_l k
    refine ⟨?_, ?_, ?_, ?_⟩
    · intro y0 y1 y2 y3 y4
      unfold endonymlaw5_ScanLines.j0
      repeat' first
      | (with_reducible exact ih0 _ _ _ _ _)
      | (with_reducible exact ih1 _ _ _ _ _)
      | (with_reducible exact ih2 _ _ _ _ _ _ _ _ _)
      | (with_reducible exact ih3 _ _ _ _ _ _ _ _ _)
      | (with_reducible exact endonymlaw5_sameTexts.mono _ _ _)
      | (with_reducible exact endonymlaw5_sameWords.mono _ _ _)
      | (with_reducible exact endonymlaw5_told.mono _)
      | (with_reducible exact endonymref5_Lines.mono _ _)
      | (with_reducible exact endonymref5_Words.mono _ _)
      | (with_reducible exact scan_Lines.mono _ _)
      | (with_reducible exact scan_Words.mono _ _)
      | (with_reducible exact LeO.refl _)
      | (with_reducible exact LeO.none _)
      | (with_reducible refine LeO.ite ?_ ?_)
      | (with_reducible refine LeO.bind ?_ (fun _ => ?_))
      | exact ih0 _ _ _ _ _
      | exact ih1 _ _ _ _ _
      | exact ih2 _ _ _ _ _ _ _ _ _
      | exact ih3 _ _ _ _ _ _ _ _ _
      | exact endonymlaw5_sameTexts.mono _ _ _
      | exact endonymlaw5_sameWords.mono _ _ _
      | exact endonymlaw5_told.mono _
      | exact endonymref5_Lines.mono _ _
      | exact endonymref5_Words.mono _ _
      | exact scan_Lines.mono _ _
      | exact scan_Words.mono _ _
      | exact LeO.none _
      | refine LeO.ite ?_ ?_
      | refine LeO.bind ?_ (fun _ => ?_)
    · intro y0 y1 y2 y3 y4
      unfold endonymlaw5_ScanLines.l0
      repeat' first
      | (with_reducible exact ih0 _ _ _ _ _)
      | (with_reducible exact ih1 _ _ _ _ _)
      | (with_reducible exact ih2 _ _ _ _ _ _ _ _ _)
      | (with_reducible exact ih3 _ _ _ _ _ _ _ _ _)
      | (with_reducible exact endonymlaw5_sameTexts.mono _ _ _)
      | (with_reducible exact endonymlaw5_sameWords.mono _ _ _)
      | (with_reducible exact endonymlaw5_told.mono _)
      | (with_reducible exact endonymref5_Lines.mono _ _)
      | (with_reducible exact endonymref5_Words.mono _ _)
      | (with_reducible exact scan_Lines.mono _ _)
      | (with_reducible exact scan_Words.mono _ _)
      | (with_reducible exact LeO.refl _)
      | (with_reducible exact LeO.none _)
      | (with_reducible refine LeO.ite ?_ ?_)
      | (with_reducible refine LeO.bind ?_ (fun _ => ?_))
      | exact ih0 _ _ _ _ _
      | exact ih1 _ _ _ _ _
      | exact ih2 _ _ _ _ _ _ _ _ _
      | exact ih3 _ _ _ _ _ _ _ _ _
      | exact endonymlaw5_sameTexts.mono _ _ _
      | exact endonymlaw5_sameWords.mono _ _ _
      | exact endonymlaw5_told.mono _
      | exact endonymref5_Lines.mono _ _
      | exact endonymref5_Words.mono _ _
      | exact scan_Lines.mono _ _
      | exact scan_Words.mono _ _
      | exact LeO.none _
      | refine LeO.ite ?_ ?_
      | refine LeO.bind ?_ (fun _ => ?_)
    · intro y0 y1 y2 y3 y4 y5 y6 y7 y8
      unfold endonymlaw5_ScanLines.j2
      repeat' first
      | (with_reducible exact ih0 _ _ _ _ _)
      | (with_reducible exact ih1 _ _ _ _ _)
      | (with_reducible exact ih2 _ _ _ _ _ _ _ _ _)
      | (with_reducible exact ih3 _ _ _ _ _ _ _ _ _)
      | (with_reducible exact endonymlaw5_sameTexts.mono _ _ _)
      | (with_reducible exact endonymlaw5_sameWords.mono _ _ _)
      | (with_reducible exact endonymlaw5_told.mono _)
      | (with_reducible exact endonymref5_Lines.mono _ _)
      | (with_reducible exact endonymref5_Words.mono _ _)
      | (with_reducible exact scan_Lines.mono _ _)
      | (with_reducible exact scan_Words.mono _ _)
      | (with_reducible exact LeO.refl _)
      | (with_reducible exact LeO.none _)
      | (with_reducible refine LeO.ite ?_ ?_)
      | (with_reducible refine LeO.bind ?_ (fun _ => ?_))
      | exact ih0 _ _ _ _ _
      | exact ih1 _ _ _ _ _
      | exact ih2 _ _ _ _ _ _ _ _ _
      | exact ih3 _ _ _ _ _ _ _ _ _
      | exact endonymlaw5_sameTexts.mono _ _ _
      | exact endonymlaw5_sameWords.mono _ _ _
      | exact endonymlaw5_told.mono _
      | exact endonymref5_Lines.mono _ _
      | exact endonymref5_Words.mono _ _
      | exact scan_Lines.mono _ _
      | exact scan_Words.mono _ _
      | exact LeO.none _
      | refine LeO.ite ?_ ?_
      | refine LeO.bind ?_ (fun _ => ?_)
    · intro y0 y1 y2 y3 y4 y5 y6 y7 y8
      unfold endonymlaw5_ScanLines.l1
      repeat' first
      | (with_reducible exact ih0 _ _ _ _ _)
      | (with_reducible exact ih1 _ _ _ _ _)
      | (with_reducible exact ih2 _ _ _ _ _ _ _ _ _)
      | (with_reducible exact ih3 _ _ _ _ _ _ _ _ _)
      | (with_reducible exact endonymlaw5_sameTexts.mono _ _ _)
      | (with_reducible exact endonymlaw5_sameWords.mono _ _ _)
      | (with_reducible exact endonymlaw5_told.mono _)
      | (with_reducible exact endonymref5_Lines.mono _ _)
      | (with_reducible exact endonymref5_Words.mono _ _)
      | (with_reducible exact scan_Lines.mono _ _)
      | (with_reducible exact scan_Words.mono _ _)
      | (with_reducible exact LeO.refl _)
      | (with_reducible exact LeO.none _)
      | (with_reducible refine LeO.ite ?_ ?_)
      | (with_reducible refine LeO.bind ?_ (fun _ => ?_))
      | exact ih0 _ _ _ _ _
      | exact ih1 _ _ _ _ _
      | exact ih2 _ _ _ _ _ _ _ _ _
      | exact ih3 _ _ _ _ _ _ _ _ _
      | exact endonymlaw5_sameTexts.mono _ _ _
      | exact endonymlaw5_sameWords.mono _ _ _
      | exact endonymlaw5_told.mono _
      | exact endonymref5_Lines.mono _ _
      | exact endonymref5_Words.mono _ _
      | exact scan_Lines.mono _ _
      | exact scan_Words.mono _ _
      | exact LeO.none _
      | refine LeO.ite ?_ ?_
      | refine LeO.bind ?_ (fun _ => ?_)
theorem endonymlaw5_ScanLines.mono : ∀ a0 k, LeO (endonymlaw5_ScanLines.f k a0) (endonymlaw5_ScanLines.f (k + 1) a0) := by
  intro a0 k
  obtain ⟨ih0, ih1, ih2, ih3⟩ := endonymlaw5_ScanLines.mono_l k
  unfold endonymlaw5_ScanLines.f
  repeat' first
      | (with_reducible exact ih0 _ _ _ _ _)
      | (with_reducible exact ih1 _ _ _ _ _)
      | (with_reducible exact ih2 _ _ _ _ _ _ _ _ _)
      | (with_reducible exact ih3 _ _ _ _ _ _ _ _ _)
      | (with_reducible exact endonymlaw5_sameTexts.mono _ _ _)
      | (with_reducible exact endonymlaw5_sameWords.mono _ _ _)
      | (with_reducible exact endonymlaw5_told.mono _)
      | (with_reducible exact endonymref5_Lines.mono _ _)
      | (with_reducible exact endonymref5_Words.mono _ _)
      | (with_reducible exact scan_Lines.mono _ _)
      | (with_reducible exact scan_Words.mono _ _)
      | (with_reducible exact LeO.refl _)
      | (with_reducible exact LeO.none _)
      | (with_reducible refine LeO.ite ?_ ?_)
      | (with_reducible refine LeO.bind ?_ (fun _ => ?_))
      | exact ih0 _ _ _ _ _
      | exact ih1 _ _ _ _ _
      | exact ih2 _ _ _ _ _ _ _ _ _
      | exact ih3 _ _ _ _ _ _ _ _ _
      | exact endonymlaw5_sameTexts.mono _ _ _
      | exact endonymlaw5_sameWords.mono _ _ _
      | exact endonymlaw5_told.mono _
      | exact endonymref5_Lines.mono _ _
      | exact endonymref5_Words.mono _ _
      | exact scan_Lines.mono _ _
      | exact scan_Words.mono _ _
      | exact LeO.none _
      | refine LeO.ite ?_ ?_
      | refine LeO.bind ?_ (fun _ => ?_)
set_option maxHeartbeats 8000000 in
set_option maxRecDepth 100000 in
theorem endonymlaw5_ScanLines.calls (k : Nat) (a0 : ByteArray) (r : Bool) (w : World) (h : endonymlaw5_ScanLines.f k a0 = some r) :
    Calls Try.prog 3 #[.string a0] w fun e w' => e = .returned (.bool r) ∧ Below w.heap.size w w' := by
  have hu34 := Try.underlying34
  have HB := Aside0.mk (Below.refl w.heap.size w)
  have H : ((scan_Lines.f k a0).bind fun t159 => ((scan_Lines.f k a0).bind fun t162 => ((endonymref5_Lines.f k a0).bind fun t165 => ((endonymlaw5_told.f k).bind fun t168 => (if t168 = true then ((endonymlaw5_sameTexts.f k t159 t165).bind fun t169 => (endonymlaw5_ScanLines.j0 k a0 t159 t162 t165 (!t169))) else (endonymlaw5_ScanLines.j0 k a0 t159 t162 t165 true)))))) = some r := h
  clear h
  replace H := Option.bind_eq_some_iff.mp H
  obtain ⟨t159, A20, H⟩ := H
  replace H : ((scan_Lines.f k a0).bind fun t162 => ((endonymref5_Lines.f k a0).bind fun t165 => ((endonymlaw5_told.f k).bind fun t168 => (if t168 = true then ((endonymlaw5_sameTexts.f k t159 t165).bind fun t169 => (endonymlaw5_ScanLines.j0 k a0 t159 t162 t165 (!t169))) else (endonymlaw5_ScanLines.j0 k a0 t159 t162 t165 true))))) = some r := H
  have A2 := Aside0.mk A20
  clear A20
  replace H := Option.bind_eq_some_iff.mp H
  obtain ⟨t162, A30, H⟩ := H
  replace H : ((endonymref5_Lines.f k a0).bind fun t165 => ((endonymlaw5_told.f k).bind fun t168 => (if t168 = true then ((endonymlaw5_sameTexts.f k t159 t165).bind fun t169 => (endonymlaw5_ScanLines.j0 k a0 t159 t162 t165 (!t169))) else (endonymlaw5_ScanLines.j0 k a0 t159 t162 t165 true)))) = some r := H
  have A3 := Aside0.mk A30
  clear A30
  replace H := Option.bind_eq_some_iff.mp H
  obtain ⟨t165, A40, H⟩ := H
  replace H : ((endonymlaw5_told.f k).bind fun t168 => (if t168 = true then ((endonymlaw5_sameTexts.f k t159 t165).bind fun t169 => (endonymlaw5_ScanLines.j0 k a0 t159 t162 t165 (!t169))) else (endonymlaw5_ScanLines.j0 k a0 t159 t162 t165 true))) = some r := H
  have A4 := Aside0.mk A40
  clear A40
  have HC5 := Aside0.mk H
  clear H
  go_enter Try.func3, Try.ntmps3
  go_upto_region 3 with (first | ((with_reducible refine gate_callee (f := 6) rfl ?_); refine goesL_ (some 15) rfl rfl Try.func6 (by kernel_rfl) rfl #[.string a0] rfl (by (try simp only [List.map_toArray, List.map_cons, List.map_nil]); first | done | rfl | (simp only [List.length_drop, List.length_take]; rfl)) ?_; (with_reducible refine (scan_Lines.calls k a0 t159 _ A2.out).mono ?_); rintro e w6 ⟨v160, rfl, ho0, hb⟩; refine ⟨_, rfl, ?_⟩; have n0_ := Aside0.mk (Kd.R_lower ho0 (below_size (by repeat (first | (with_reducible first | exact HB.out | apply below_alloc | apply pw_below_drewN | apply below_drew1) | exact HB.out)))); have n1_ := Aside0.mk (below_step (by repeat (first | (with_reducible first | exact HB.out | apply below_alloc | apply pw_below_drewN | apply below_drew1) | exact HB.out)) hb); clear HB; have HO161 := n0_; have HB := n1_; clear n0_ n1_; (try clear hb); (try clear hb2); (try clear hk); (try clear hi); (try clear ho0)) | ((with_reducible refine gate_callee (f := 6) rfl ?_); refine goesL_ (some 17) rfl rfl Try.func6 (by kernel_rfl) rfl #[.string a0] rfl (by (try simp only [List.map_toArray, List.map_cons, List.map_nil]); first | done | rfl | (simp only [List.length_drop, List.length_take]; rfl)) ?_; (with_reducible refine (scan_Lines.calls k a0 t162 _ A3.out).mono ?_); rintro e w7 ⟨v163, rfl, ho0, hb⟩; refine ⟨_, rfl, ?_⟩; have n0_ := Aside0.mk (Kd.R_elder' (by (with_reducible repeat (first | apply Kd.R_alloc | apply Kd.R_drewN | apply Kd.R_drew)); exact HO161.out) (Kd.R_base ho0) hb); have n1_ := Aside0.mk (Kd.R_lower (Kd.R_new' ho0 (Kd.R_lt (by (with_reducible repeat (first | apply Kd.R_alloc | apply Kd.R_drewN | apply Kd.R_drew)); exact HO161.out))) (below_size (by repeat (first | (with_reducible first | exact HB.out | apply below_alloc | apply pw_below_drewN | apply below_drew1) | exact HB.out)))); have n2_ := Aside0.mk (below_step (by repeat (first | (with_reducible first | exact HB.out | apply below_alloc | apply pw_below_drewN | apply below_drew1) | exact HB.out)) hb); clear HO161; clear HB; have HO161 := n0_; have HO164 := n1_; have HB := n2_; clear n0_ n1_ n2_; (try clear hb); (try clear hb2); (try clear hk); (try clear hi); (try clear ho0)) | ((with_reducible refine gate_callee (f := 7) rfl ?_); refine goesL_ (some 19) rfl rfl Try.func7 (by kernel_rfl) rfl #[.string a0] rfl (by (try simp only [List.map_toArray, List.map_cons, List.map_nil]); first | done | rfl | (simp only [List.length_drop, List.length_take]; rfl)) ?_; (with_reducible refine (endonymref5_Lines.calls k a0 t165 _ A4.out).mono ?_); rintro e w8 ⟨v166, rfl, ho0, hb⟩; refine ⟨_, rfl, ?_⟩; have n0_ := Aside0.mk (Kd.R_elder' (by (with_reducible repeat (first | apply Kd.R_alloc | apply Kd.R_drewN | apply Kd.R_drew)); exact HO161.out) (Kd.R_base ho0) hb); have n1_ := Aside0.mk (Kd.R_elder' (by (with_reducible repeat (first | apply Kd.R_alloc | apply Kd.R_drewN | apply Kd.R_drew)); exact HO164.out) (Kd.R_base ho0) hb); have n2_ := Aside0.mk (Kd.R_lower (Kd.R_new' (Kd.R_new' ho0 (Kd.R_lt (by (with_reducible repeat (first | apply Kd.R_alloc | apply Kd.R_drewN | apply Kd.R_drew)); exact HO161.out))) (Kd.R_lt (by (with_reducible repeat (first | apply Kd.R_alloc | apply Kd.R_drewN | apply Kd.R_drew)); exact HO164.out))) (below_size (by repeat (first | (with_reducible first | exact HB.out | apply below_alloc | apply pw_below_drewN | apply below_drew1) | exact HB.out)))); have n3_ := Aside0.mk (below_step (by repeat (first | (with_reducible first | exact HB.out | apply below_alloc | apply pw_below_drewN | apply below_drew1) | exact HB.out)) hb); clear HO161; clear HO164; clear HB; have HO161 := n0_; have HO164 := n1_; have HO167 := n2_; have HB := n3_; clear n0_ n1_ n2_ n3_; (try clear hb); (try clear hb2); (try clear hk); (try clear hi); (try clear ho0)))
  (try simp only [Act.put, List.setIfInBounds_toArray, List.set_cons_zero, List.set_cons_succ])
  go_cut [27] (fun v27 wc => ∃ (kq : Nat) (x27_4 : Bool), v27 = .bool x27_4 ∧ Aside0 (endonymlaw5_ScanLines.j0 kq a0 t159 t162 t165 x27_4 = some r) ∧ Aside0 (kq ≤ k) ∧ Aside0 (Kd.R Kd.string 9 wc w.heap.size (fun k_ => some k_ ≠ (v163 : Value).ownBlock ∧ some k_ ≠ (v166 : Value).ownBlock) v160 t159) ∧ Aside0 (Kd.R Kd.string 9 wc w.heap.size (fun k_ => some k_ ≠ (v160 : Value).ownBlock ∧ some k_ ≠ (v166 : Value).ownBlock) v163 t162) ∧ Aside0 (Kd.R Kd.string 9 wc w.heap.size (fun k_ => some k_ ≠ (v160 : Value).ownBlock ∧ some k_ ≠ (v163 : Value).ownBlock) v166 t165) ∧ Aside0 (Below w.heap.size w wc))
  case first =>
    have H := HC5.out
    clear HC5
    replace H := Option.bind_eq_some_iff.mp H
    obtain ⟨t168, A90, H⟩ := H
    replace H : (if t168 = true then ((endonymlaw5_sameTexts.f k t159 t165).bind fun t169 => (endonymlaw5_ScanLines.j0 k a0 t159 t162 t165 (!t169))) else (endonymlaw5_ScanLines.j0 k a0 t159 t162 t165 true)) = some r := H
    have A9 := Aside0.mk A90
    clear A90
    by_cases c10 : t168 = true
    · subst c10
      have H1 : ((endonymlaw5_sameTexts.f k t159 t165).bind fun t169 => (endonymlaw5_ScanLines.j0 k a0 t159 t162 t165 (!t169))) = some r := by rw [if_pos rfl] at H; exact H
      clear H
      have H := H1
      clear H1
      replace H := Option.bind_eq_some_iff.mp H
      obtain ⟨t169, A110, H⟩ := H
      replace H : (endonymlaw5_ScanLines.j0 k a0 t159 t162 t165 (!t169)) = some r := H
      have A11 := Aside0.mk A110
      clear A110
      have H' := Aside0.mk H
      clear H
      go_wp2_with (first | ((with_reducible refine gate_callee (f := 8) rfl ?_); refine goesL_ (some 20) rfl rfl Try.func8 (by kernel_rfl) rfl #[] rfl (by (try simp only [List.map_toArray, List.map_cons, List.map_nil]); first | done | rfl | (simp only [List.length_drop, List.length_take]; rfl)) ?_; (with_reducible refine (endonymlaw5_told.calls k  true _ A9.out).mono ?_); rintro e w12 ⟨rfl, hb⟩; refine ⟨_, rfl, ?_⟩; have n0_ := Aside0.mk (Kd.R_below (by (with_reducible repeat (first | apply Kd.R_alloc | apply Kd.R_drewN | apply Kd.R_drew)); exact HO161.out) hb); have n1_ := Aside0.mk (Kd.R_below (by (with_reducible repeat (first | apply Kd.R_alloc | apply Kd.R_drewN | apply Kd.R_drew)); exact HO164.out) hb); have n2_ := Aside0.mk (Kd.R_below (by (with_reducible repeat (first | apply Kd.R_alloc | apply Kd.R_drewN | apply Kd.R_drew)); exact HO167.out) hb); have n3_ := Aside0.mk (below_step (by repeat (first | (with_reducible first | exact HB.out | apply below_alloc | apply pw_below_drewN | apply below_drew1) | exact HB.out)) hb); clear HO161; clear HO164; clear HO167; clear HB; have HO161 := n0_; have HO164 := n1_; have HO167 := n2_; have HB := n3_; clear n0_ n1_ n2_ n3_; (try clear hb); (try clear hb2); (try clear hk); (try clear hi); obtain ⟨Ao13, co13, eo13⟩ := Kd.R_slice HO161.out; subst eo13; obtain ⟨Ao14, co14, eo14⟩ := Kd.R_slice HO167.out; subst eo14) | (go_at_call 9; (with_reducible refine (endonymlaw5_sameTexts.calls k _ _ t159 _ _ t165 t169 _ ?side1 ?side2 ?side3 ?side4 A11.out).mono ?_); (case side1 => repeat (first | exact (Kd.R_reads' HO161.out).2.2 | (with_reducible refine Kd.C_alloc ?_ _) | (with_reducible refine Kd.C_drewN ?_ _) | (with_reducible refine Kd.C_drew ?_))); (case side2 => exact (Kd.R_reads' HO161.out).2.1); (case side3 => repeat (first | exact (Kd.R_reads' HO167.out).2.2 | (with_reducible refine Kd.C_alloc ?_ _) | (with_reducible refine Kd.C_drewN ?_ _) | (with_reducible refine Kd.C_drew ?_))); (case side4 => exact (Kd.R_reads' HO167.out).2.1); rintro e w' ⟨rfl, ⟨nd, rfl⟩⟩))
      go_meet
      case rel => exact ⟨_, (!t169), (by first | rfl | (simp; done) | (simp [*]; done)), H', ⟨by first | omega | exact Nat.le_refl _⟩, ⟨by (with_reducible repeat (first | apply Kd.R_alloc | apply Kd.R_drewN | apply Kd.R_drew)); exact Kd.R_mono HO161.out (fun _ hk => ⟨hk.1.2, hk.2⟩)⟩, ⟨by (with_reducible repeat (first | apply Kd.R_alloc | apply Kd.R_drewN | apply Kd.R_drew)); exact Kd.R_mono HO164.out (fun _ hk => ⟨hk.1.2, hk.2⟩)⟩, ⟨by (with_reducible repeat (first | apply Kd.R_alloc | apply Kd.R_drewN | apply Kd.R_drew)); exact Kd.R_mono HO167.out (fun _ hk => ⟨hk.1.2, hk.2⟩)⟩, ⟨by repeat (first | (with_reducible first | exact HB.out | apply below_alloc | apply pw_below_drewN | apply below_drew1) | exact HB.out)⟩⟩
    · replace c10 := Bool.eq_false_iff.mpr c10
      subst c10
      have H1 : (endonymlaw5_ScanLines.j0 k a0 t159 t162 t165 true) = some r := by rw [if_neg (show ¬ (false = true) by decide)] at H; exact H
      clear H
      have H := H1
      clear H1
      have H' := Aside0.mk H
      clear H
      go_wp2_with (first | ((with_reducible refine gate_callee (f := 8) rfl ?_); refine goesL_ (some 20) rfl rfl Try.func8 (by kernel_rfl) rfl #[] rfl (by (try simp only [List.map_toArray, List.map_cons, List.map_nil]); first | done | rfl | (simp only [List.length_drop, List.length_take]; rfl)) ?_; (with_reducible refine (endonymlaw5_told.calls k  false _ A9.out).mono ?_); rintro e w15 ⟨rfl, hb⟩; refine ⟨_, rfl, ?_⟩; have n0_ := Aside0.mk (Kd.R_below (by (with_reducible repeat (first | apply Kd.R_alloc | apply Kd.R_drewN | apply Kd.R_drew)); exact HO161.out) hb); have n1_ := Aside0.mk (Kd.R_below (by (with_reducible repeat (first | apply Kd.R_alloc | apply Kd.R_drewN | apply Kd.R_drew)); exact HO164.out) hb); have n2_ := Aside0.mk (Kd.R_below (by (with_reducible repeat (first | apply Kd.R_alloc | apply Kd.R_drewN | apply Kd.R_drew)); exact HO167.out) hb); have n3_ := Aside0.mk (below_step (by repeat (first | (with_reducible first | exact HB.out | apply below_alloc | apply pw_below_drewN | apply below_drew1) | exact HB.out)) hb); clear HO161; clear HO164; clear HO167; clear HB; have HO161 := n0_; have HO164 := n1_; have HO167 := n2_; have HB := n3_; clear n0_ n1_ n2_ n3_; (try clear hb); (try clear hb2); (try clear hk); (try clear hi)))
      go_meet
      case rel => exact ⟨_, (true), (by first | rfl | (simp; done) | (simp [*]; done)), H', ⟨by first | omega | exact Nat.le_refl _⟩, ⟨by (with_reducible repeat (first | apply Kd.R_alloc | apply Kd.R_drewN | apply Kd.R_drew)); exact Kd.R_mono HO161.out (fun _ hk => ⟨hk.1.2, hk.2⟩)⟩, ⟨by (with_reducible repeat (first | apply Kd.R_alloc | apply Kd.R_drewN | apply Kd.R_drew)); exact Kd.R_mono HO164.out (fun _ hk => ⟨hk.1.2, hk.2⟩)⟩, ⟨by (with_reducible repeat (first | apply Kd.R_alloc | apply Kd.R_drewN | apply Kd.R_drew)); exact Kd.R_mono HO167.out (fun _ hk => ⟨hk.1.2, hk.2⟩)⟩, ⟨by repeat (first | (with_reducible first | exact HB.out | apply below_alloc | apply pw_below_drewN | apply below_drew1) | exact HB.out)⟩⟩
  case rest =>
    clear HC5
    try clear c1
    try clear p2
    try clear c3
    try clear c6
    try clear c7
    try clear c8
    try clear c10
    obtain ⟨kq, x27_4, rfl, HA, HJ4, HO_3, HO_4, HO_5, HB⟩ := hcut
    cases kq with
    | zero => exact absurd HA.out (by simp [endonymlaw5_ScanLines.j0])
    | succ kj4 =>
      have H := HA.out
      clear HA
      simp only [endonymlaw5_ScanLines.j0] at H
      by_cases c16 : x27_4 = true
      · subst c16
        have H1 : (some false) = some r := by rw [if_pos rfl] at H; exact H
        clear H
        have H := H1
        clear H1
        obtain rfl := Option.some.inj H
        go_wp2
        go_ret
        exact ⟨by first | rfl | (simp [errW_none, errW_some] <;> rfl) | (simp [*, errW_none, errW_some] <;> rfl), by repeat (first | (with_reducible first | exact HB.out | apply below_alloc | apply pw_below_drewN | apply below_drew1) | exact HB.out)⟩
      · replace c16 := Bool.eq_false_iff.mpr c16
        subst c16
        have H1 : (endonymlaw5_ScanLines.l0 kj4 a0 t159 t162 t165 0) = some r := by rw [if_neg (show ¬ (false = true) by decide)] at H; exact H
        clear H
        have H := H1
        clear H1
        have H' := Aside0.mk H
        clear H
        go_wp2
        go_loopg [6] kj4 (fun kq v6 w' => ∃ (x3_2 : List ByteArray) (x6_2 : Int), v6 = .int .i64 x6_2 ∧ Aside0 (endonymlaw5_ScanLines.l0 kq a0 x3_2 t162 t165 x6_2 = some r) ∧ Aside0 (kq ≤ kj4) ∧ Aside0 (Kd.R Kd.string 9 w' w.heap.size (fun k_ => some k_ ≠ (v163 : Value).ownBlock ∧ some k_ ≠ (v166 : Value).ownBlock) v160 x3_2) ∧ Aside0 (Kd.R Kd.string 9 w' w.heap.size (fun k_ => some k_ ≠ (v160 : Value).ownBlock ∧ some k_ ≠ (v166 : Value).ownBlock) v163 t162) ∧ Aside0 (Kd.R Kd.string 9 w' w.heap.size (fun k_ => some k_ ≠ (v160 : Value).ownBlock ∧ some k_ ≠ (v163 : Value).ownBlock) v166 t165) ∧ Aside0 (Below w.heap.size w w'))
        case atStart => exact ⟨(t159), (0), (by first | rfl | (simp; done) | (simp [*]; done)), H', ⟨Nat.le_refl _⟩, ⟨by (with_reducible repeat (first | apply Kd.R_alloc | apply Kd.R_drewN | apply Kd.R_drew)); exact HO_3.out⟩, ⟨by (with_reducible repeat (first | apply Kd.R_alloc | apply Kd.R_drewN | apply Kd.R_drew)); exact HO_4.out⟩, ⟨by (with_reducible repeat (first | apply Kd.R_alloc | apply Kd.R_drewN | apply Kd.R_drew)); exact HO_5.out⟩, ⟨by repeat (first | (with_reducible first | exact HB.out | apply below_alloc | apply pw_below_drewN | apply below_drew1) | exact HB.out)⟩⟩
        case round =>
          clear H'
          try clear c1
          try clear p2
          try clear c3
          try clear c6
          try clear c7
          try clear c8
          try clear c10
          try clear c16
          try clear p2
          obtain ⟨x3_2, x6_2, rfl, HA, HK2, HO_3, HO_4, HO_5, HB⟩ := hrel
          cases gk with
          | zero => exact absurd HA.out (by simp [endonymlaw5_ScanLines.l0])
          | succ k2 =>
            have H := HA.out
            clear HA
            simp only [endonymlaw5_ScanLines.l0] at H
            by_cases c17 : x6_2 < (x3_2.length : Int)
            · rw [if_pos c17] at H
              have c17b0 : decide (x6_2 < (x3_2.length : Int)) = true := decide_eq_true c17
              clear c17
              by_cases c18 : 0 ≤ x6_2
              · rw [if_pos c18] at H
                have c18b0 : decide (0 ≤ x6_2) = true := decide_eq_true c18
                clear c18
                replace H := Option.bind_eq_some_iff.mp H
                obtain ⟨⟨t176, t177⟩, A190, H⟩ := H
                replace H : (if x6_2 < (t165.length : Int) then ((endonymref5_Words.f k2 (rdOf ByteArray.empty t165 x6_2)).bind fun bt181 => ((scan_Words.f k2 (rdOf ByteArray.empty x3_2 x6_2)).bind fun bt186 => ((endonymlaw5_sameWords.f k2 t176 bt181.1).bind fun t190 => (if t190 = true then (endonymlaw5_ScanLines.j2 k2 a0 x3_2 t162 t165 x6_2 t176 bt181.1 bt186.1 (t177 != bt181.2)) else (endonymlaw5_ScanLines.j2 k2 a0 x3_2 t162 t165 x6_2 t176 bt181.1 bt186.1 true))))) else (none)) = some r := H
                have A19 := Aside0.mk A190
                clear A190
                by_cases c20 : x6_2 < (t165.length : Int)
                · rw [if_pos c20] at H
                  have c20b0 : decide (x6_2 < (t165.length : Int)) = true := decide_eq_true c20
                  clear c20
                  replace H := Option.bind_eq_some_iff.mp H
                  obtain ⟨⟨t181, t182⟩, A210, H⟩ := H
                  replace H : ((scan_Words.f k2 (rdOf ByteArray.empty x3_2 x6_2)).bind fun bt186 => ((endonymlaw5_sameWords.f k2 t176 t181).bind fun t190 => (if t190 = true then (endonymlaw5_ScanLines.j2 k2 a0 x3_2 t162 t165 x6_2 t176 t181 bt186.1 (t177 != t182)) else (endonymlaw5_ScanLines.j2 k2 a0 x3_2 t162 t165 x6_2 t176 t181 bt186.1 true)))) = some r := H
                  have A21 := Aside0.mk A210
                  clear A210
                  replace H := Option.bind_eq_some_iff.mp H
                  obtain ⟨⟨t186, t187⟩, A220, H⟩ := H
                  replace H : ((endonymlaw5_sameWords.f k2 t176 t181).bind fun t190 => (if t190 = true then (endonymlaw5_ScanLines.j2 k2 a0 x3_2 t162 t165 x6_2 t176 t181 t186 (t177 != t182)) else (endonymlaw5_ScanLines.j2 k2 a0 x3_2 t162 t165 x6_2 t176 t181 t186 true))) = some r := H
                  have A22 := Aside0.mk A220
                  clear A220
                  have HC23 := Aside0.mk H
                  clear H
                  obtain ⟨Ao24, co24, eo24⟩ := Kd.R_slice HO_3.out
                  subst eo24
                  have p175 : 0 ≤ (x6_2 : Int) := of_decide_eq_true (by first | (with_reducible assumption) | assumption)
                  have q175 : x6_2 < (x3_2.length : Int) := of_decide_eq_true (by first | (with_reducible assumption) | assumption)
                  obtain ⟨ad175, e175, hx175_0⟩ := Kd.at_string (Kd.R_reads' HO_3.out).2.2 x6_2 p175 q175
                  cases e175
                  replace p175 := eq_true p175
                  replace q175 := eq_true q175
                  go_upto_region 11 with (first | ((with_reducible refine gate_callee (f := 10) rfl ?_); refine goesL_ (some 39) rfl rfl Try.func10 (by kernel_rfl) rfl #[.string (rdOf ByteArray.empty x3_2 x6_2)] rfl (by (try simp only [List.map_toArray, List.map_cons, List.map_nil]); first | done | rfl | (simp only [List.length_drop, List.length_take]; rfl)) ?_; (with_reducible refine (scan_Words.calls k2 (rdOf ByteArray.empty x3_2 x6_2) t176 t177 _ A19.out).mono ?_); rintro e w25 ⟨v178, rfl, ho0, hb⟩; refine ⟨_, rfl, ?_⟩; have n0_ := Aside0.mk (Kd.R_below (by (with_reducible repeat (first | apply Kd.R_alloc | apply Kd.R_drewN | apply Kd.R_drew)); exact HO_3.out) hb); have n1_ := Aside0.mk (Kd.R_below (by (with_reducible repeat (first | apply Kd.R_alloc | apply Kd.R_drewN | apply Kd.R_drew)); exact HO_4.out) hb); have n2_ := Aside0.mk (Kd.R_below (by (with_reducible repeat (first | apply Kd.R_alloc | apply Kd.R_drewN | apply Kd.R_drew)); exact HO_5.out) hb); have n3_ := Aside0.mk (Kd.R_lower ho0 (below_size (by repeat (first | (with_reducible first | exact HB.out | apply below_alloc | apply pw_below_drewN | apply below_drew1) | exact HB.out)))); have n4_ := Aside0.mk (below_step (by repeat (first | (with_reducible first | exact HB.out | apply below_alloc | apply pw_below_drewN | apply below_drew1) | exact HB.out)) hb); clear HO_3; clear HO_4; clear HO_5; clear HB; have HO_3 := n0_; have HO_4 := n1_; have HO_5 := n2_; have HO179 := n3_; have HB := n4_; clear n0_ n1_ n2_ n3_ n4_; (try clear hb); (try clear hb2); (try clear hk); (try clear hi); (try clear ho0); obtain ⟨Ao26, co26, eo26⟩ := Kd.R_slice HO_5.out; subst eo26; have p180 : 0 ≤ (x6_2 : Int) := of_decide_eq_true (by first | (with_reducible assumption) | assumption); have q180 : x6_2 < (t165.length : Int) := of_decide_eq_true (by first | (with_reducible assumption) | assumption); obtain ⟨ad180, e180, hx180_0⟩ := Kd.at_string (Kd.R_reads' HO_5.out).2.2 x6_2 p180 q180; cases e180; replace p180 := eq_true p180; replace q180 := eq_true q180) | ((with_reducible refine gate_callee (f := 11) rfl ?_); refine goesL_ (some 47) rfl rfl Try.func11 (by kernel_rfl) rfl #[.string (rdOf ByteArray.empty t165 x6_2)] rfl (by (try simp only [List.map_toArray, List.map_cons, List.map_nil]); first | done | rfl | (simp only [List.length_drop, List.length_take]; rfl)) ?_; (with_reducible refine (endonymref5_Words.calls k2 (rdOf ByteArray.empty t165 x6_2) t181 t182 _ A21.out).mono ?_); rintro e w27 ⟨v183, rfl, ho0, hb⟩; refine ⟨_, rfl, ?_⟩; have n0_ := Aside0.mk (Kd.R_below (by (with_reducible repeat (first | apply Kd.R_alloc | apply Kd.R_drewN | apply Kd.R_drew)); exact HO_3.out) hb); have n1_ := Aside0.mk (Kd.R_below (by (with_reducible repeat (first | apply Kd.R_alloc | apply Kd.R_drewN | apply Kd.R_drew)); exact HO_4.out) hb); have n2_ := Aside0.mk (Kd.R_below (by (with_reducible repeat (first | apply Kd.R_alloc | apply Kd.R_drewN | apply Kd.R_drew)); exact HO_5.out) hb); have n3_ := Aside0.mk (Kd.R_below (by (with_reducible repeat (first | apply Kd.R_alloc | apply Kd.R_drewN | apply Kd.R_drew)); exact HO179.out) hb); have n4_ := Aside0.mk (Kd.R_lower ho0 (below_size (by repeat (first | (with_reducible first | exact HB.out | apply below_alloc | apply pw_below_drewN | apply below_drew1) | exact HB.out)))); have n5_ := Aside0.mk (below_step (by repeat (first | (with_reducible first | exact HB.out | apply below_alloc | apply pw_below_drewN | apply below_drew1) | exact HB.out)) hb); clear HO_3; clear HO_4; clear HO_5; clear HO179; clear HB; have HO_3 := n0_; have HO_4 := n1_; have HO_5 := n2_; have HO179 := n3_; have HO184 := n4_; have HB := n5_; clear n0_ n1_ n2_ n3_ n4_ n5_; (try clear hb); (try clear hb2); (try clear hk); (try clear hi); (try clear ho0); have p185 : 0 ≤ (x6_2 : Int) := of_decide_eq_true (by first | (with_reducible assumption) | assumption); have q185 : x6_2 < (x3_2.length : Int) := of_decide_eq_true (by first | (with_reducible assumption) | assumption); obtain ⟨ad185, e185, hx185_0⟩ := Kd.at_string (Kd.R_reads' HO_3.out).2.2 x6_2 p185 q185; obtain rfl : ad175 = ad185 := (by injection e185); replace p185 := eq_true p185; replace q185 := eq_true q185) | ((with_reducible refine gate_callee (f := 10) rfl ?_); refine goesL_ (some 55) rfl rfl Try.func10 (by kernel_rfl) rfl #[.string (rdOf ByteArray.empty x3_2 x6_2)] rfl (by (try simp only [List.map_toArray, List.map_cons, List.map_nil]); first | done | rfl | (simp only [List.length_drop, List.length_take]; rfl)) ?_; (with_reducible refine (scan_Words.calls k2 (rdOf ByteArray.empty x3_2 x6_2) t186 t187 _ A22.out).mono ?_); rintro e w28 ⟨v188, rfl, ho0, hb⟩; refine ⟨_, rfl, ?_⟩; have n0_ := Aside0.mk (Kd.R_below (by (with_reducible repeat (first | apply Kd.R_alloc | apply Kd.R_drewN | apply Kd.R_drew)); exact HO_3.out) hb); have n1_ := Aside0.mk (Kd.R_below (by (with_reducible repeat (first | apply Kd.R_alloc | apply Kd.R_drewN | apply Kd.R_drew)); exact HO_4.out) hb); have n2_ := Aside0.mk (Kd.R_below (by (with_reducible repeat (first | apply Kd.R_alloc | apply Kd.R_drewN | apply Kd.R_drew)); exact HO_5.out) hb); have n3_ := Aside0.mk (Kd.R_elder' (by (with_reducible repeat (first | apply Kd.R_alloc | apply Kd.R_drewN | apply Kd.R_drew)); exact HO179.out) (Kd.R_base ho0) hb); have n4_ := Aside0.mk (Kd.R_below (by (with_reducible repeat (first | apply Kd.R_alloc | apply Kd.R_drewN | apply Kd.R_drew)); exact HO184.out) hb); have n5_ := Aside0.mk (Kd.R_lower (Kd.R_new' ho0 (Kd.R_lt (by (with_reducible repeat (first | apply Kd.R_alloc | apply Kd.R_drewN | apply Kd.R_drew)); exact HO179.out))) (below_size (by repeat (first | (with_reducible first | exact HB.out | apply below_alloc | apply pw_below_drewN | apply below_drew1) | exact HB.out)))); have n6_ := Aside0.mk (below_step (by repeat (first | (with_reducible first | exact HB.out | apply below_alloc | apply pw_below_drewN | apply below_drew1) | exact HB.out)) hb); clear HO_3; clear HO_4; clear HO_5; clear HO179; clear HO184; clear HB; have HO_3 := n0_; have HO_4 := n1_; have HO_5 := n2_; have HO179 := n3_; have HO184 := n4_; have HO189 := n5_; have HB := n6_; clear n0_ n1_ n2_ n3_ n4_ n5_ n6_; (try clear hb); (try clear hb2); (try clear hk); (try clear hi); (try clear ho0)))
                  (try simp only [Act.put, List.setIfInBounds_toArray, List.set_cons_zero, List.set_cons_succ])
                  go_cut [66] (fun v66 wc => ∃ (kq : Nat) (x66_22 : Bool), v66 = .bool x66_22 ∧ Aside0 (endonymlaw5_ScanLines.j2 kq a0 x3_2 t162 t165 x6_2 t176 t181 t186 x66_22 = some r) ∧ Aside0 (kq ≤ k2) ∧ Aside0 (Kd.R Kd.string 9 wc w.heap.size (fun k_ => some k_ ≠ (v163 : Value).ownBlock ∧ some k_ ≠ ((.slice (some ad180) t165.length co26) : Value).ownBlock) (.slice (some ad175) x3_2.length co24) x3_2) ∧ Aside0 (Kd.R Kd.string 9 wc w.heap.size (fun k_ => some k_ ≠ ((.slice (some ad175) x3_2.length co24) : Value).ownBlock ∧ some k_ ≠ ((.slice (some ad180) t165.length co26) : Value).ownBlock) v163 t162) ∧ Aside0 (Kd.R Kd.string 9 wc w.heap.size (fun k_ => some k_ ≠ ((.slice (some ad175) x3_2.length co24) : Value).ownBlock ∧ some k_ ≠ (v163 : Value).ownBlock) (.slice (some ad180) t165.length co26) t165) ∧ Aside0 (Kd.R k34 34 wc w.heap.size (fun k_ => some k_ ≠ (v188 : Value).ownBlock) v178 t176) ∧ Aside0 (Kd.R k48 48 wc w.heap.size (fun _ => True) v183 t181) ∧ Aside0 (Kd.R k34 34 wc w.heap.size (fun k_ => some k_ ≠ (v178 : Value).ownBlock) v188 t186) ∧ Aside0 (Below w.heap.size w wc))
                  case first =>
                    have H := HC23.out
                    clear HC23
                    replace H := Option.bind_eq_some_iff.mp H
                    obtain ⟨t190, A290, H⟩ := H
                    replace H : (if t190 = true then (endonymlaw5_ScanLines.j2 k2 a0 x3_2 t162 t165 x6_2 t176 t181 t186 (t177 != t182)) else (endonymlaw5_ScanLines.j2 k2 a0 x3_2 t162 t165 x6_2 t176 t181 t186 true)) = some r := H
                    have A29 := Aside0.mk A290
                    clear A290
                    by_cases c30 : t190 = true
                    · subst c30
                      have H1 : (endonymlaw5_ScanLines.j2 k2 a0 x3_2 t162 t165 x6_2 t176 t181 t186 (t177 != t182)) = some r := by rw [if_pos rfl] at H; exact H
                      clear H
                      have H := H1
                      clear H1
                      have H' := Aside0.mk H
                      clear H
                      obtain ⟨Ao31, co31, eo31⟩ := Kd.R_slice HO179.out
                      subst eo31
                      obtain ⟨Ao32, co32, eo32⟩ := Kd.R_slice HO184.out
                      subst eo32
                      go_wp2_with (first | ((with_reducible refine gate_callee (f := 12) rfl ?_); refine goesL_ (some 60) rfl rfl Try.func12 (by kernel_rfl) rfl #[.slice Ao31 t176.length co31, .slice Ao32 t181.length co32] rfl (by (try simp only [List.map_toArray, List.map_cons, List.map_nil]); first | done | rfl | (simp only [List.length_drop, List.length_take]; rfl)) ?_; (with_reducible refine (endonymlaw5_sameWords.calls k2 _ _ t176 _ _ t181 true _ ?side1 ?side2 ?side3 ?side4 A29.out).mono ?_); (case side1 => repeat (first | exact (Kd.R_reads' HO179.out).2.2 | (with_reducible refine Kd.C_alloc ?_ _) | (with_reducible refine Kd.C_drewN ?_ _) | (with_reducible refine Kd.C_drew ?_))); (case side2 => exact (Kd.R_reads' HO179.out).2.1); (case side3 => repeat (first | exact (Kd.R_reads' HO184.out).2.2 | (with_reducible refine Kd.C_alloc ?_ _) | (with_reducible refine Kd.C_drewN ?_ _) | (with_reducible refine Kd.C_drew ?_))); (case side4 => exact (Kd.R_reads' HO184.out).2.1); rintro e w' ⟨rfl, ⟨nd, rfl⟩⟩; refine ⟨_, rfl, ?_⟩))
                      go_meet
                      case rel => exact ⟨_, ((t177 != t182)), (by first | rfl | (simp; done) | (simp [*]; done)), H', ⟨by have := HJ4.out; have := HK2.out; first | omega | exact Nat.le_refl _⟩, ⟨by (with_reducible repeat (first | apply Kd.R_alloc | apply Kd.R_drewN | apply Kd.R_drew)); exact HO_3.out⟩, ⟨by (with_reducible repeat (first | apply Kd.R_alloc | apply Kd.R_drewN | apply Kd.R_drew)); exact HO_4.out⟩, ⟨by (with_reducible repeat (first | apply Kd.R_alloc | apply Kd.R_drewN | apply Kd.R_drew)); exact HO_5.out⟩, ⟨by (with_reducible repeat (first | apply Kd.R_alloc | apply Kd.R_drewN | apply Kd.R_drew)); exact Kd.R_mono HO179.out (fun _ hk => hk.2)⟩, ⟨by (with_reducible repeat (first | apply Kd.R_alloc | apply Kd.R_drewN | apply Kd.R_drew)); exact HO184.out⟩, ⟨by (with_reducible repeat (first | apply Kd.R_alloc | apply Kd.R_drewN | apply Kd.R_drew)); exact Kd.R_mono HO189.out (fun _ hk => hk.2)⟩, ⟨by repeat (first | (with_reducible first | exact HB.out | apply below_alloc | apply pw_below_drewN | apply below_drew1) | exact HB.out)⟩⟩
                    · replace c30 := Bool.eq_false_iff.mpr c30
                      subst c30
                      have H1 : (endonymlaw5_ScanLines.j2 k2 a0 x3_2 t162 t165 x6_2 t176 t181 t186 true) = some r := by rw [if_neg (show ¬ (false = true) by decide)] at H; exact H
                      clear H
                      have H := H1
                      clear H1
                      have H' := Aside0.mk H
                      clear H
                      obtain ⟨Ao33, co33, eo33⟩ := Kd.R_slice HO179.out
                      subst eo33
                      obtain ⟨Ao34, co34, eo34⟩ := Kd.R_slice HO184.out
                      subst eo34
                      go_wp2_with (first | ((with_reducible refine gate_callee (f := 12) rfl ?_); refine goesL_ (some 60) rfl rfl Try.func12 (by kernel_rfl) rfl #[.slice Ao33 t176.length co33, .slice Ao34 t181.length co34] rfl (by (try simp only [List.map_toArray, List.map_cons, List.map_nil]); first | done | rfl | (simp only [List.length_drop, List.length_take]; rfl)) ?_; (with_reducible refine (endonymlaw5_sameWords.calls k2 _ _ t176 _ _ t181 false _ ?side1 ?side2 ?side3 ?side4 A29.out).mono ?_); (case side1 => repeat (first | exact (Kd.R_reads' HO179.out).2.2 | (with_reducible refine Kd.C_alloc ?_ _) | (with_reducible refine Kd.C_drewN ?_ _) | (with_reducible refine Kd.C_drew ?_))); (case side2 => exact (Kd.R_reads' HO179.out).2.1); (case side3 => repeat (first | exact (Kd.R_reads' HO184.out).2.2 | (with_reducible refine Kd.C_alloc ?_ _) | (with_reducible refine Kd.C_drewN ?_ _) | (with_reducible refine Kd.C_drew ?_))); (case side4 => exact (Kd.R_reads' HO184.out).2.1); rintro e w' ⟨rfl, ⟨nd, rfl⟩⟩; refine ⟨_, rfl, ?_⟩))
                      go_meet
                      case rel => exact ⟨_, (true), (by first | rfl | (simp; done) | (simp [*]; done)), H', ⟨by have := HJ4.out; have := HK2.out; first | omega | exact Nat.le_refl _⟩, ⟨by (with_reducible repeat (first | apply Kd.R_alloc | apply Kd.R_drewN | apply Kd.R_drew)); exact HO_3.out⟩, ⟨by (with_reducible repeat (first | apply Kd.R_alloc | apply Kd.R_drewN | apply Kd.R_drew)); exact HO_4.out⟩, ⟨by (with_reducible repeat (first | apply Kd.R_alloc | apply Kd.R_drewN | apply Kd.R_drew)); exact HO_5.out⟩, ⟨by (with_reducible repeat (first | apply Kd.R_alloc | apply Kd.R_drewN | apply Kd.R_drew)); exact Kd.R_mono HO179.out (fun _ hk => hk.2)⟩, ⟨by (with_reducible repeat (first | apply Kd.R_alloc | apply Kd.R_drewN | apply Kd.R_drew)); exact HO184.out⟩, ⟨by (with_reducible repeat (first | apply Kd.R_alloc | apply Kd.R_drewN | apply Kd.R_drew)); exact Kd.R_mono HO189.out (fun _ hk => hk.2)⟩, ⟨by repeat (first | (with_reducible first | exact HB.out | apply below_alloc | apply pw_below_drewN | apply below_drew1) | exact HB.out)⟩⟩
                  case rest =>
                    clear HC23
                    try clear c1
                    try clear p1
                    try clear q1
                    try clear hx1
                    try clear c2
                    try clear p2
                    try clear c3
                    try clear c6
                    try clear c7
                    try clear c8
                    try clear c10
                    try clear c11
                    try clear c12
                    try clear c16
                    try clear c17
                    try clear c17b0
                    try clear p17
                    try clear q17
                    try clear hx17
                    try clear c18
                    try clear c18b0
                    try clear p18
                    try clear q18
                    try clear hx18
                    try clear c20
                    try clear c20b0
                    try clear c30
                    try clear hx175_0
                    try clear hx180_0
                    try clear hx185_0
                    try clear p175
                    try clear p180
                    try clear p185
                    try clear p2
                    try clear q175
                    try clear q180
                    try clear q185
                    obtain ⟨kq, x66_22, rfl, HA, HJ22, HO_3, HO_4, HO_5, HO_7, HO_9, HO_11, HB⟩ := hcut
                    cases kq with
                    | zero => exact absurd HA.out (by simp [endonymlaw5_ScanLines.j2])
                    | succ kj22 =>
                      have H := HA.out
                      clear HA
                      simp only [endonymlaw5_ScanLines.j2] at H
                      by_cases c35 : x66_22 = true
                      · subst c35
                        have H1 : (some false) = some r := by rw [if_pos rfl] at H; exact H
                        clear H
                        have H := H1
                        clear H1
                        obtain rfl := Option.some.inj H
                        go_wp2
                        go_ret
                        exact ⟨by first | rfl | (simp [errW_none, errW_some] <;> rfl) | (simp [*, errW_none, errW_some] <;> rfl), by repeat (first | (with_reducible first | exact HB.out | apply below_alloc | apply pw_below_drewN | apply below_drew1) | exact HB.out)⟩
                      · replace c35 := Bool.eq_false_iff.mpr c35
                        subst c35
                        have H1 : (endonymlaw5_ScanLines.l1 kj22 a0 x3_2 t162 t165 x6_2 t176 t181 t186 0) = some r := by rw [if_neg (show ¬ (false = true) by decide)] at H; exact H
                        clear H
                        have H := H1
                        clear H1
                        have H' := Aside0.mk H
                        clear H
                        go_wp2
                        go_loopg [13] kj22 (fun kq v13 w' => ∃ (x7_4 : List (S34)) (x13_4 : Int), v13 = .int .i64 x13_4 ∧ Aside0 (endonymlaw5_ScanLines.l1 kq a0 x3_2 t162 t165 x6_2 x7_4 t181 t186 x13_4 = some r) ∧ Aside0 (kq ≤ kj22) ∧ Aside0 (Kd.R Kd.string 9 w' w.heap.size (fun k_ => some k_ ≠ (v163 : Value).ownBlock ∧ some k_ ≠ ((.slice (some ad180) t165.length co26) : Value).ownBlock) (.slice (some ad175) x3_2.length co24) x3_2) ∧ Aside0 (Kd.R Kd.string 9 w' w.heap.size (fun k_ => some k_ ≠ ((.slice (some ad175) x3_2.length co24) : Value).ownBlock ∧ some k_ ≠ ((.slice (some ad180) t165.length co26) : Value).ownBlock) v163 t162) ∧ Aside0 (Kd.R Kd.string 9 w' w.heap.size (fun k_ => some k_ ≠ ((.slice (some ad175) x3_2.length co24) : Value).ownBlock ∧ some k_ ≠ (v163 : Value).ownBlock) (.slice (some ad180) t165.length co26) t165) ∧ Aside0 (Kd.R k34 34 w' w.heap.size (fun k_ => some k_ ≠ (v188 : Value).ownBlock) v178 x7_4) ∧ Aside0 (Kd.R k48 48 w' w.heap.size (fun _ => True) v183 t181) ∧ Aside0 (Kd.R k34 34 w' w.heap.size (fun k_ => some k_ ≠ (v178 : Value).ownBlock) v188 t186) ∧ Aside0 (Below w.heap.size w w'))
                        case atStart => exact ⟨(t176), (0), (by first | rfl | (simp; done) | (simp [*]; done)), H', ⟨Nat.le_refl _⟩, ⟨by (with_reducible repeat (first | apply Kd.R_alloc | apply Kd.R_drewN | apply Kd.R_drew)); exact HO_3.out⟩, ⟨by (with_reducible repeat (first | apply Kd.R_alloc | apply Kd.R_drewN | apply Kd.R_drew)); exact HO_4.out⟩, ⟨by (with_reducible repeat (first | apply Kd.R_alloc | apply Kd.R_drewN | apply Kd.R_drew)); exact HO_5.out⟩, ⟨by (with_reducible repeat (first | apply Kd.R_alloc | apply Kd.R_drewN | apply Kd.R_drew)); exact HO_7.out⟩, ⟨by (with_reducible repeat (first | apply Kd.R_alloc | apply Kd.R_drewN | apply Kd.R_drew)); exact HO_9.out⟩, ⟨by (with_reducible repeat (first | apply Kd.R_alloc | apply Kd.R_drewN | apply Kd.R_drew)); exact HO_11.out⟩, ⟨by repeat (first | (with_reducible first | exact HB.out | apply below_alloc | apply pw_below_drewN | apply below_drew1) | exact HB.out)⟩⟩
                        case round =>
                          clear H'
                          try clear c1
                          try clear p1
                          try clear q1
                          try clear hx1
                          try clear c2
                          try clear p2
                          try clear c3
                          try clear c6
                          try clear c7
                          try clear c8
                          try clear c10
                          try clear c11
                          try clear c12
                          try clear c16
                          try clear c17
                          try clear c17b0
                          try clear p17
                          try clear q17
                          try clear hx17
                          try clear c18
                          try clear c18b0
                          try clear p18
                          try clear q18
                          try clear hx18
                          try clear c20
                          try clear c20b0
                          try clear c30
                          try clear c35
                          try clear hx175_0
                          try clear hx180_0
                          try clear hx185_0
                          try clear p1
                          try clear p17
                          try clear p175
                          try clear p18
                          try clear p180
                          try clear p185
                          try clear p2
                          try clear q1
                          try clear q17
                          try clear q175
                          try clear q18
                          try clear q180
                          try clear q185
                          obtain ⟨x7_4, x13_4, rfl, HA, HK4, HO_3, HO_4, HO_5, HO_7, HO_9, HO_11, HB⟩ := hrel
                          cases gk with
                          | zero => exact absurd HA.out (by simp [endonymlaw5_ScanLines.l1])
                          | succ k4 =>
                            have H := HA.out
                            clear HA
                            simp only [endonymlaw5_ScanLines.l1] at H
                            by_cases c36 : x13_4 < (x7_4.length : Int)
                            · rw [if_pos c36] at H
                              have c36b0 : decide (x13_4 < (x7_4.length : Int)) = true := decide_eq_true c36
                              clear c36
                              by_cases c37 : 0 ≤ x13_4
                              · rw [if_pos c37] at H
                                have c37b0 : decide (0 ≤ x13_4) = true := decide_eq_true c37
                                clear c37
                                obtain ⟨y191, hy191⟩ : ∃ y_ : List (S34), y_ = (x7_4.set (x13_4 : Int).toNat (⟨(⟨#[63]⟩ : ByteArray), (-1)⟩ : S34)) := ⟨_, rfl⟩
                                replace H : (endonymlaw5_ScanLines.l1 k4 a0 x3_2 t162 t165 x6_2 y191 t181 t186 (wrap64 (x13_4 + 1))) = some r := by first | (rw [hy191]; with_reducible exact H) | (have H2_ := (Option.bind_some _ _).symm.trans H; rw [hy191]; with_reducible exact H2_) | (have H2_ := (Option.bind_some _ _).symm.trans H; with_reducible exact H2_) | with_reducible exact H | (rw [hy191]; exact H) | exact H
                                have Ny191 := Aside0.mk hy191
                                clear hy191
                                have H' := Aside0.mk H
                                clear H
                                obtain ⟨Ao39, co39, eo39⟩ := Kd.R_slice HO_7.out
                                subst eo39
                                have p38 : 0 ≤ (x13_4 : Int) := of_decide_eq_true (by first | (with_reducible assumption) | assumption)
                                have q38 : (x13_4 : Int) < ((x7_4.length : Int) : Int) := of_decide_eq_true (by first | (with_reducible assumption) | assumption)
                                obtain ⟨go38, co38, eo38, gb38, gl38, cl38, HG38⟩ := Kd.R_form HO_7.out (by omega)
                                (first | cases eo38 | (injection eo38 with ea_ en_ ec_; (first | subst ea_ | (injection ea_ with ea_; subst ea_)); subst ec_; clear en_))
                                have GB38 := Aside0.mk gb38
                                have GG38 := Aside0.mk HG38
                                clear gb38 gl38 HG38
                                obtain ⟨ce38, hcl38, hM38, hcc38, hfr38⟩ := Kd.R_elem HO_7.out z34 (x13_4 : Int) p38 q38
                                obtain rfl := k34_openM hM38
                                have hx38_0 : wr.cell? ⟨go38, (x13_4 : Int).toNat * 2, none⟩ = some (.string ((rd_T34 x7_4 x13_4).f0)) := hcc38 0 _ rfl
                                have hx38_1 : wr.cell? ⟨go38, (x13_4 : Int).toNat * 2 + 1, none⟩ = some (.int .i64 ((rd_T34 x7_4 x13_4).f1)) := hcc38 1 _ rfl
                                have hf38_0 : wr.frozen? ⟨go38, (x13_4 : Int).toNat * 2, none⟩ = false := hfr38 0
                                have hf38_1 : wr.frozen? ⟨go38, (x13_4 : Int).toNat * 2 + 1, none⟩ = false := hfr38 1
                                clear hcl38 hcc38 hfr38 hM38
                                replace p38 := eq_true p38
                                replace q38 := eq_true q38
                                have HX40 := Aside0.mk (show Kd.R k34 34 wr w.heap.size (fun k_ => some k_ ≠ (v188 : Value).ownBlock) (.slice (some ⟨go38, 0, none⟩) x7_4.length co39) x7_4 from (by (with_reducible repeat (first | apply Kd.R_alloc | apply Kd.R_drewN | apply Kd.R_drew)); exact HO_7.out))
                                obtain ⟨ce40, hcl40, hM40, hcc40, hfr40⟩ := Kd.R_elem HX40.out z34 (x13_4 : Int) (of_decide_eq_true (by first | (with_reducible assumption) | assumption)) (by have h_ : (x13_4 : Int) < ((x7_4.length : Int) : Int) := of_decide_eq_true (by first | (with_reducible assumption) | assumption); first | exact h_ | (have e_ := (Kd.R_reads' HO_7.out).1; omega) | simpa using h_)
                                obtain rfl := k34_openM hM40
                                have HP40 := Kd.R_seg HX40.out (x13_4 : Int) (of_decide_eq_true (by first | (with_reducible assumption) | assumption)) (by have h_ : (x13_4 : Int) < ((x7_4.length : Int) : Int) := of_decide_eq_true (by first | (with_reducible assumption) | assumption); first | exact h_ | (have e_ := (Kd.R_reads' HO_7.out).1; omega) | simpa using h_) (seg := [.string (⟨#[63]⟩ : ByteArray), .int .i64 (-1)]) (j := 0) hcl40 hcc40 (show 2 ≤ 2 from by decide) (x' := (⟨(⟨#[63]⟩ : ByteArray), (-1)⟩ : S34)) (k34_mkM _ _ _ (⟨(⟨#[63]⟩ : ByteArray), (-1)⟩ : S34) ) (fun _ hk => hk)
                                have hx40_0 := hcc40 0 _ rfl
                                (try simp only [show (k34).sz = 2 from rfl, Nat.mul_one, Nat.add_zero] at hx40_0)
                                have hf40_0 := hfr40 0
                                (try simp only [show (k34).sz = 2 from rfl, Nat.mul_one, Nat.add_zero] at hf40_0)
                                have hx40_1 := hcc40 1 _ rfl
                                (try simp only [show (k34).sz = 2 from rfl, Nat.mul_one, Nat.add_zero] at hx40_1)
                                have hf40_1 := hfr40 1
                                (try simp only [show (k34).sz = 2 from rfl, Nat.mul_one, Nat.add_zero] at hf40_1)
                                clear hcl40 hcc40 hfr40 hM40
                                go_wp2_with (first | ((with_reducible refine gate_store (t := 34) (p := 76) rfl ?_); refine store_event (t := 34) (p := 76) (v := ?vo_w41) (w1 := ((wr.setCell ⟨go38, (x13_4 : Int).toNat * 2, none⟩ (.string (⟨#[63]⟩ : ByteArray))).setCell ⟨go38, (x13_4 : Int).toNat * 2 + 1, none⟩ (.int .i64 (-1)))) ?hg ?ho ?hn ?hr ?_; (case ho => rfl); (case hg => rfl); (case hn => rfl); (case hr => first | (go_simp; done) | (go_simp; rfl)); intro w41 hw; have hg : wr.grownBy w41 (some go38) := (by rw [hw]; exact HP40.2); have hp_ : Kd.R k34 34 w41 w.heap.size (fun k_ => some k_ ≠ (v188 : Value).ownBlock) (.slice (some ⟨go38, 0, none⟩) x7_4.length co39) y191 := (by rw [hw, Ny191.out]; exact HP40.1); clear HP40; have n0_ := Aside0.mk (Kd.R_over' (v := (.slice (some ⟨go38, 0, none⟩) x7_4.length co39)) (by (with_reducible repeat (first | apply Kd.R_alloc | apply Kd.R_drewN | apply Kd.R_drew)); exact HO_3.out) (Kd.R_typed HO_7.out) (by decide) hg); have n1_ := Aside0.mk (Kd.R_over' (v := (.slice (some ⟨go38, 0, none⟩) x7_4.length co39)) (by (with_reducible repeat (first | apply Kd.R_alloc | apply Kd.R_drewN | apply Kd.R_drew)); exact HO_4.out) (Kd.R_typed HO_7.out) (by decide) hg); have n2_ := Aside0.mk (Kd.R_over' (v := (.slice (some ⟨go38, 0, none⟩) x7_4.length co39)) (by (with_reducible repeat (first | apply Kd.R_alloc | apply Kd.R_drewN | apply Kd.R_drew)); exact HO_5.out) (Kd.R_typed HO_7.out) (by decide) hg); have n3_ := Aside0.mk (hp_); have n4_ := Aside0.mk (Kd.R_over' (v := (.slice (some ⟨go38, 0, none⟩) x7_4.length co39)) (by (with_reducible repeat (first | apply Kd.R_alloc | apply Kd.R_drewN | apply Kd.R_drew)); exact HO_9.out) (Kd.R_typed HO_7.out) (by decide) hg); have n5_ := Aside0.mk (Kd.R_after (v := (.slice (some ⟨go38, 0, none⟩) x7_4.length co39)) (v1 := (.slice (some ⟨go38, 0, none⟩) x7_4.length co39)) (ok := (fun _ => True)) (by (with_reducible repeat (first | apply Kd.R_alloc | apply Kd.R_drewN | apply Kd.R_drew)); exact Kd.R_mono HO_11.out (fun _ hk => ⟨trivial, hk⟩)) hg (.inl rfl)); have n6_ := Aside0.mk ((by rw [hw]; exact below_set (below_set (HB.out) GB38.out) GB38.out : Below w.heap.size w w41)); clear HO_3; clear HO_4; clear HO_5; clear HO_7; clear HO_9; clear HO_11; clear HB; have HO_3 := n0_; have HO_4 := n1_; have HO_5 := n2_; have HO_7 := n3_; have HO_9 := n4_; have HO_11 := n5_; have HB := n6_; clear n0_ n1_ n2_ n3_ n4_ n5_ n6_; clear hg hw hp_))
                                go_roundg k4
                                case measure => have := HJ4.out; have := HK2.out; have := HJ22.out; have := HK4.out; omega
                                case rel => exact ⟨(y191), (wrap64 (x13_4 + 1)), (by first | rfl | (simp; done) | (simp [*]; done)), H', ⟨by have := HJ4.out; have := HK2.out; have := HJ22.out; have := HK4.out; omega⟩, ⟨by (with_reducible repeat (first | apply Kd.R_alloc | apply Kd.R_drewN | apply Kd.R_drew)); exact HO_3.out⟩, ⟨by (with_reducible repeat (first | apply Kd.R_alloc | apply Kd.R_drewN | apply Kd.R_drew)); exact HO_4.out⟩, ⟨by (with_reducible repeat (first | apply Kd.R_alloc | apply Kd.R_drewN | apply Kd.R_drew)); exact HO_5.out⟩, ⟨by (with_reducible repeat (first | apply Kd.R_alloc | apply Kd.R_drewN | apply Kd.R_drew)); exact HO_7.out⟩, ⟨by (with_reducible repeat (first | apply Kd.R_alloc | apply Kd.R_drewN | apply Kd.R_drew)); exact HO_9.out⟩, ⟨by (with_reducible repeat (first | apply Kd.R_alloc | apply Kd.R_drewN | apply Kd.R_drew)); exact Kd.R_mono HO_11.out (fun _ hk => hk.2)⟩, ⟨by repeat (first | (with_reducible first | exact HB.out | apply below_alloc | apply pw_below_drewN | apply below_drew1) | exact HB.out)⟩⟩
                              · rw [if_neg c37] at H
                                exact absurd H (by simp)
                            · rw [if_neg c36] at H
                              have c36b0 : decide (x13_4 < (x7_4.length : Int)) = false := decide_eq_false c36
                              clear c36
                              by_cases c42 : 0 ≤ x6_2
                              · rw [if_pos c42] at H
                                have c42b0 : decide (0 ≤ x6_2) = true := decide_eq_true c42
                                clear c42
                                by_cases c43 : x6_2 < (x3_2.length : Int)
                                · rw [if_pos c43] at H
                                  have c43b0 : decide (x6_2 < (x3_2.length : Int)) = true := decide_eq_true c43
                                  clear c43
                                  obtain ⟨y192, hy192⟩ : ∃ y_ : List ByteArray, y_ = (x3_2.set (x6_2 : Int).toNat (⟨#[63]⟩ : ByteArray)) := ⟨_, rfl⟩
                                  replace H : ((endonymlaw5_sameWords.f k4 t186 t181).bind fun t193 => (if t193 = true then (endonymlaw5_ScanLines.l0 k4 a0 y192 t162 t165 (wrap64 (x6_2 + 1))) else (some false))) = some r := by first | (rw [hy192]; with_reducible exact H) | (have H2_ := (Option.bind_some _ _).symm.trans H; rw [hy192]; with_reducible exact H2_) | (have H2_ := (Option.bind_some _ _).symm.trans H; with_reducible exact H2_) | with_reducible exact H | (rw [hy192]; exact H) | exact H
                                  have Ny192 := Aside0.mk hy192
                                  clear hy192
                                  replace H := Option.bind_eq_some_iff.mp H
                                  obtain ⟨t193, A450, H⟩ := H
                                  replace H : (if t193 = true then (endonymlaw5_ScanLines.l0 k4 a0 y192 t162 t165 (wrap64 (x6_2 + 1))) else (some false)) = some r := H
                                  have A45 := Aside0.mk A450
                                  clear A450
                                  by_cases c46 : t193 = true
                                  · subst c46
                                    have H1 : (endonymlaw5_ScanLines.l0 k4 a0 y192 t162 t165 (wrap64 (x6_2 + 1))) = some r := by rw [if_pos rfl] at H; exact H
                                    clear H
                                    have H := H1
                                    clear H1
                                    have H' := Aside0.mk H
                                    clear H
                                    obtain ⟨Ao47, co47, eo47⟩ := Kd.R_slice HO_7.out
                                    subst eo47
                                    have p44 : 0 ≤ (x6_2 : Int) := of_decide_eq_true (by first | (with_reducible assumption) | assumption)
                                    have q44 : (x6_2 : Int) < ((x3_2.length : Int) : Int) := of_decide_eq_true (by first | (with_reducible assumption) | assumption)
                                    obtain ⟨go44, co44, eo44, gb44, gl44, cl44, HG44⟩ := Kd.R_form HO_3.out (by omega)
                                    (first | cases eo44 | (injection eo44 with ea_ en_ ec_; (first | subst ea_ | (injection ea_ with ea_; subst ea_)); subst ec_; clear en_))
                                    have GB44 := Aside0.mk gb44
                                    have GG44 := Aside0.mk HG44
                                    clear gb44 gl44 HG44
                                    (first | simp only [add_plain] at hx175_0 | skip)
                                    (first | simp only [add_plain] at hx185_0 | skip)
                                    obtain ⟨hx44_0, hf44_0⟩ := Kd.R_celln (⟨#[]⟩ : ByteArray) HO_3.out (x6_2 : Int) p44 q44
                                    replace p44 := eq_true p44
                                    replace q44 := eq_true q44
                                    have HP48 := Kd.R_putg HO_3.out (x6_2 : Int) (⟨#[63]⟩ : ByteArray)
                                    go_wp2_with (first | ((with_reducible refine gate_store (t := 9) (p := 79) rfl ?_); refine store_event (t := 9) (p := 79) (v := ?vo_w49) (w1 := (wr.setCell ⟨go44, (x6_2 : Int).toNat, none⟩ (.string (⟨#[63]⟩ : ByteArray)))) ?hg ?ho ?hn ?hr ?_; (case ho => rfl); (case hg => rfl); (case hn => rfl); (case hr => first | (go_simp; done) | (go_simp; rfl)); intro w49 hw; have hg : wr.grownBy w49 (some go44) := (by rw [hw]; exact HP48.2); have hp_ : Kd.R Kd.string 9 w49 w.heap.size (fun k_ => some k_ ≠ (v163 : Value).ownBlock ∧ some k_ ≠ (.slice (some ad180) t165.length co26 : Value).ownBlock) (.slice (some ⟨go44, 0, none⟩) x3_2.length co24) y192 := (by rw [hw, Ny192.out]; exact HP48.1); clear HP48; have n0_ := Aside0.mk (hp_); have n1_ := Aside0.mk (Kd.R_after (v := (.slice (some ⟨go44, 0, none⟩) x3_2.length co24)) (v1 := (.slice (some ⟨go44, 0, none⟩) x3_2.length co24)) (ok := (fun k_ => some k_ ≠ (.slice (some ad180) t165.length co26 : Value).ownBlock)) (by (with_reducible repeat (first | apply Kd.R_alloc | apply Kd.R_drewN | apply Kd.R_drew)); exact Kd.R_mono HO_4.out (fun _ hk => ⟨hk.2, hk.1⟩)) hg (.inl rfl)); have n2_ := Aside0.mk (Kd.R_after (v := (.slice (some ⟨go44, 0, none⟩) x3_2.length co24)) (v1 := (.slice (some ⟨go44, 0, none⟩) x3_2.length co24)) (ok := (fun k_ => some k_ ≠ (v163 : Value).ownBlock)) (by (with_reducible repeat (first | apply Kd.R_alloc | apply Kd.R_drewN | apply Kd.R_drew)); exact Kd.R_mono HO_5.out (fun _ hk => ⟨hk.2, hk.1⟩)) hg (.inl rfl)); have n3_ := Aside0.mk (Kd.R_over' (v := (.slice (some ⟨go44, 0, none⟩) x3_2.length co24)) (by (with_reducible repeat (first | apply Kd.R_alloc | apply Kd.R_drewN | apply Kd.R_drew)); exact HO_7.out) (Kd.R_typed HO_3.out) (by decide) hg); have n4_ := Aside0.mk (Kd.R_over' (v := (.slice (some ⟨go44, 0, none⟩) x3_2.length co24)) (by (with_reducible repeat (first | apply Kd.R_alloc | apply Kd.R_drewN | apply Kd.R_drew)); exact HO_9.out) (Kd.R_typed HO_3.out) (by decide) hg); have n5_ := Aside0.mk (Kd.R_over' (v := (.slice (some ⟨go44, 0, none⟩) x3_2.length co24)) (by (with_reducible repeat (first | apply Kd.R_alloc | apply Kd.R_drewN | apply Kd.R_drew)); exact HO_11.out) (Kd.R_typed HO_3.out) (by decide) hg); have n6_ := Aside0.mk ((by rw [hw]; exact below_set (HB.out) GB44.out : Below w.heap.size w w49)); clear HO_3; clear HO_4; clear HO_5; clear HO_7; clear HO_9; clear HO_11; clear HB; have HO_3 := n0_; have HO_4 := n1_; have HO_5 := n2_; have HO_7 := n3_; have HO_9 := n4_; have HO_11 := n5_; have HB := n6_; clear n0_ n1_ n2_ n3_ n4_ n5_ n6_; clear hg hw hp_; obtain ⟨Ao50, co50, eo50⟩ := Kd.R_slice HO_11.out; subst eo50; obtain ⟨Ao51, co51, eo51⟩ := Kd.R_slice HO_9.out; subst eo51) | ((with_reducible refine gate_callee (f := 12) rfl ?_); refine goesL_ (some 82) rfl rfl Try.func12 (by kernel_rfl) rfl #[.slice Ao50 t186.length co50, .slice Ao51 t181.length co51] rfl (by (try simp only [List.map_toArray, List.map_cons, List.map_nil]); first | done | rfl | (simp only [List.length_drop, List.length_take]; rfl)) ?_; (with_reducible refine (endonymlaw5_sameWords.calls k4 _ _ t186 _ _ t181 true _ ?side1 ?side2 ?side3 ?side4 A45.out).mono ?_); (case side1 => repeat (first | exact (Kd.R_reads' HO_11.out).2.2 | (with_reducible refine Kd.C_alloc ?_ _) | (with_reducible refine Kd.C_drewN ?_ _) | (with_reducible refine Kd.C_drew ?_))); (case side2 => exact (Kd.R_reads' HO_11.out).2.1); (case side3 => repeat (first | exact (Kd.R_reads' HO_9.out).2.2 | (with_reducible refine Kd.C_alloc ?_ _) | (with_reducible refine Kd.C_drewN ?_ _) | (with_reducible refine Kd.C_drew ?_))); (case side4 => exact (Kd.R_reads' HO_9.out).2.1); rintro e w' ⟨rfl, ⟨nd, rfl⟩⟩; refine ⟨_, rfl, ?_⟩))
                                    go_roundg k4
                                    case measure => have := HJ4.out; have := HK2.out; have := HJ22.out; have := HK4.out; omega
                                    case rel => exact ⟨(y192), (wrap64 (x6_2 + 1)), (by first | rfl | (simp; done) | (simp [*]; done)), H', ⟨by have := HJ4.out; have := HK2.out; have := HJ22.out; have := HK4.out; omega⟩, ⟨by (with_reducible repeat (first | apply Kd.R_alloc | apply Kd.R_drewN | apply Kd.R_drew)); exact HO_3.out⟩, ⟨by (with_reducible repeat (first | apply Kd.R_alloc | apply Kd.R_drewN | apply Kd.R_drew)); exact Kd.R_mono HO_4.out (fun _ hk => ⟨hk.2, hk.1⟩)⟩, ⟨by (with_reducible repeat (first | apply Kd.R_alloc | apply Kd.R_drewN | apply Kd.R_drew)); exact Kd.R_mono HO_5.out (fun _ hk => ⟨hk.2, hk.1⟩)⟩, ⟨by repeat (first | (with_reducible first | exact HB.out | apply below_alloc | apply pw_below_drewN | apply below_drew1) | exact HB.out)⟩⟩
                                  · replace c46 := Bool.eq_false_iff.mpr c46
                                    subst c46
                                    have H1 : (some false) = some r := by rw [if_neg (show ¬ (false = true) by decide)] at H; exact H
                                    clear H
                                    have H := H1
                                    clear H1
                                    obtain rfl := Option.some.inj H
                                    obtain ⟨Ao52, co52, eo52⟩ := Kd.R_slice HO_7.out
                                    subst eo52
                                    have p44 : 0 ≤ (x6_2 : Int) := of_decide_eq_true (by first | (with_reducible assumption) | assumption)
                                    have q44 : (x6_2 : Int) < ((x3_2.length : Int) : Int) := of_decide_eq_true (by first | (with_reducible assumption) | assumption)
                                    obtain ⟨go44, co44, eo44, gb44, gl44, cl44, HG44⟩ := Kd.R_form HO_3.out (by omega)
                                    (first | cases eo44 | (injection eo44 with ea_ en_ ec_; (first | subst ea_ | (injection ea_ with ea_; subst ea_)); subst ec_; clear en_))
                                    have GB44 := Aside0.mk gb44
                                    have GG44 := Aside0.mk HG44
                                    clear gb44 gl44 HG44
                                    obtain ⟨hx44_0, hf44_0⟩ := Kd.R_celln (⟨#[]⟩ : ByteArray) HO_3.out (x6_2 : Int) p44 q44
                                    replace p44 := eq_true p44
                                    replace q44 := eq_true q44
                                    have HP53 := Kd.R_putg HO_3.out (x6_2 : Int) (⟨#[63]⟩ : ByteArray)
                                    go_wp2_with (first | ((with_reducible refine gate_store (t := 9) (p := 79) rfl ?_); refine store_event (t := 9) (p := 79) (v := ?vo_w54) (w1 := (wr.setCell ⟨go44, (x6_2 : Int).toNat, none⟩ (.string (⟨#[63]⟩ : ByteArray)))) ?hg ?ho ?hn ?hr ?_; (case ho => rfl); (case hg => rfl); (case hn => rfl); (case hr => first | (go_simp; done) | (go_simp; rfl)); intro w54 hw; have hg : wr.grownBy w54 (some go44) := (by rw [hw]; exact HP53.2); have hp_ : Kd.R Kd.string 9 w54 w.heap.size (fun k_ => some k_ ≠ (v163 : Value).ownBlock ∧ some k_ ≠ (.slice (some ad180) t165.length co26 : Value).ownBlock) (.slice (some ⟨go44, 0, none⟩) x3_2.length co24) y192 := (by rw [hw, Ny192.out]; exact HP53.1); clear HP53; have n0_ := Aside0.mk (hp_); have n1_ := Aside0.mk (Kd.R_after (v := (.slice (some ⟨go44, 0, none⟩) x3_2.length co24)) (v1 := (.slice (some ⟨go44, 0, none⟩) x3_2.length co24)) (ok := (fun k_ => some k_ ≠ (.slice (some ad180) t165.length co26 : Value).ownBlock)) (by (with_reducible repeat (first | apply Kd.R_alloc | apply Kd.R_drewN | apply Kd.R_drew)); exact Kd.R_mono HO_4.out (fun _ hk => ⟨hk.2, hk.1⟩)) hg (.inl rfl)); have n2_ := Aside0.mk (Kd.R_after (v := (.slice (some ⟨go44, 0, none⟩) x3_2.length co24)) (v1 := (.slice (some ⟨go44, 0, none⟩) x3_2.length co24)) (ok := (fun k_ => some k_ ≠ (v163 : Value).ownBlock)) (by (with_reducible repeat (first | apply Kd.R_alloc | apply Kd.R_drewN | apply Kd.R_drew)); exact Kd.R_mono HO_5.out (fun _ hk => ⟨hk.2, hk.1⟩)) hg (.inl rfl)); have n3_ := Aside0.mk (Kd.R_over' (v := (.slice (some ⟨go44, 0, none⟩) x3_2.length co24)) (by (with_reducible repeat (first | apply Kd.R_alloc | apply Kd.R_drewN | apply Kd.R_drew)); exact HO_7.out) (Kd.R_typed HO_3.out) (by decide) hg); have n4_ := Aside0.mk (Kd.R_over' (v := (.slice (some ⟨go44, 0, none⟩) x3_2.length co24)) (by (with_reducible repeat (first | apply Kd.R_alloc | apply Kd.R_drewN | apply Kd.R_drew)); exact HO_9.out) (Kd.R_typed HO_3.out) (by decide) hg); have n5_ := Aside0.mk (Kd.R_over' (v := (.slice (some ⟨go44, 0, none⟩) x3_2.length co24)) (by (with_reducible repeat (first | apply Kd.R_alloc | apply Kd.R_drewN | apply Kd.R_drew)); exact HO_11.out) (Kd.R_typed HO_3.out) (by decide) hg); have n6_ := Aside0.mk ((by rw [hw]; exact below_set (HB.out) GB44.out : Below w.heap.size w w54)); clear HO_3; clear HO_4; clear HO_5; clear HO_7; clear HO_9; clear HO_11; clear HB; have HO_3 := n0_; have HO_4 := n1_; have HO_5 := n2_; have HO_7 := n3_; have HO_9 := n4_; have HO_11 := n5_; have HB := n6_; clear n0_ n1_ n2_ n3_ n4_ n5_ n6_; clear hg hw hp_; obtain ⟨Ao55, co55, eo55⟩ := Kd.R_slice HO_11.out; subst eo55; obtain ⟨Ao56, co56, eo56⟩ := Kd.R_slice HO_9.out; subst eo56) | ((with_reducible refine gate_callee (f := 12) rfl ?_); refine goesL_ (some 82) rfl rfl Try.func12 (by kernel_rfl) rfl #[.slice Ao55 t186.length co55, .slice Ao56 t181.length co56] rfl (by (try simp only [List.map_toArray, List.map_cons, List.map_nil]); first | done | rfl | (simp only [List.length_drop, List.length_take]; rfl)) ?_; (with_reducible refine (endonymlaw5_sameWords.calls k4 _ _ t186 _ _ t181 false _ ?side1 ?side2 ?side3 ?side4 A45.out).mono ?_); (case side1 => repeat (first | exact (Kd.R_reads' HO_11.out).2.2 | (with_reducible refine Kd.C_alloc ?_ _) | (with_reducible refine Kd.C_drewN ?_ _) | (with_reducible refine Kd.C_drew ?_))); (case side2 => exact (Kd.R_reads' HO_11.out).2.1); (case side3 => repeat (first | exact (Kd.R_reads' HO_9.out).2.2 | (with_reducible refine Kd.C_alloc ?_ _) | (with_reducible refine Kd.C_drewN ?_ _) | (with_reducible refine Kd.C_drew ?_))); (case side4 => exact (Kd.R_reads' HO_9.out).2.1); rintro e w' ⟨rfl, ⟨nd, rfl⟩⟩; refine ⟨_, rfl, ?_⟩))
                                    go_ret
                                    exact ⟨by first | rfl | (simp [errW_none, errW_some] <;> rfl) | (simp [*, errW_none, errW_some] <;> rfl), by repeat (first | (with_reducible first | exact HB.out | apply below_alloc | apply pw_below_drewN | apply below_drew1) | exact HB.out)⟩
                                · rw [if_neg c43] at H
                                  exact absurd H (by simp)
                              · rw [if_neg c42] at H
                                exact absurd H (by simp)
                · rw [if_neg c20] at H
                  exact absurd H (by simp)
              · rw [if_neg c18] at H
                exact absurd H (by simp)
            · rw [if_neg c17] at H
              have c17b0 : decide (x6_2 < (x3_2.length : Int)) = false := decide_eq_false c17
              clear c17
              replace H := Option.bind_eq_some_iff.mp H
              obtain ⟨t170, A570, H⟩ := H
              replace H : (if t170 = true then ((scan_Lines.f k2 a0).bind fun t171 => ((endonymlaw5_sameTexts.f k2 t171 t165).bind fun t174 => (some t174))) else (some false)) = some r := H
              have A57 := Aside0.mk A570
              clear A570
              by_cases c58 : t170 = true
              · subst c58
                have H1 : ((scan_Lines.f k2 a0).bind fun t171 => ((endonymlaw5_sameTexts.f k2 t171 t165).bind fun t174 => (some t174))) = some r := by rw [if_pos rfl] at H; exact H
                clear H
                have H := H1
                clear H1
                replace H := Option.bind_eq_some_iff.mp H
                obtain ⟨t171, A590, H⟩ := H
                replace H : ((endonymlaw5_sameTexts.f k2 t171 t165).bind fun t174 => (some t174)) = some r := H
                have A59 := Aside0.mk A590
                clear A590
                replace H := Option.bind_eq_some_iff.mp H
                obtain ⟨t174, A600, H⟩ := H
                replace H : (some t174) = some r := H
                have A60 := Aside0.mk A600
                clear A600
                obtain rfl := Option.some.inj H
                obtain ⟨Ao61, co61, eo61⟩ := Kd.R_slice HO_3.out
                subst eo61
                obtain ⟨Ao62, co62, eo62⟩ := Kd.R_slice HO_4.out
                subst eo62
                obtain ⟨Ao63, co63, eo63⟩ := Kd.R_slice HO_5.out
                subst eo63
                go_wp2_with (first | ((with_reducible refine gate_callee (f := 9) rfl ?_); refine goesL_ (some 86) rfl rfl Try.func9 (by kernel_rfl) rfl #[.slice Ao62 t162.length co62, .slice Ao63 t165.length co63] rfl (by (try simp only [List.map_toArray, List.map_cons, List.map_nil]); first | done | rfl | (simp only [List.length_drop, List.length_take]; rfl)) ?_; (with_reducible refine (endonymlaw5_sameTexts.calls k2 _ _ t162 _ _ t165 true _ ?side1 ?side2 ?side3 ?side4 A57.out).mono ?_); (case side1 => repeat (first | exact (Kd.R_reads' HO_4.out).2.2 | (with_reducible refine Kd.C_alloc ?_ _) | (with_reducible refine Kd.C_drewN ?_ _) | (with_reducible refine Kd.C_drew ?_))); (case side2 => exact (Kd.R_reads' HO_4.out).2.1); (case side3 => repeat (first | exact (Kd.R_reads' HO_5.out).2.2 | (with_reducible refine Kd.C_alloc ?_ _) | (with_reducible refine Kd.C_drewN ?_ _) | (with_reducible refine Kd.C_drew ?_))); (case side4 => exact (Kd.R_reads' HO_5.out).2.1); rintro e w' ⟨rfl, ⟨nd, rfl⟩⟩; refine ⟨_, rfl, ?_⟩) | (go_at_call 6; (with_reducible refine (scan_Lines.calls k2 a0 t171 _ A59.out).mono ?_); rintro e w64 ⟨v172, rfl, ho0, hb⟩; have n0_ := Aside0.mk (Kd.R_elder' (by (with_reducible repeat (first | apply Kd.R_alloc | apply Kd.R_drewN | apply Kd.R_drew)); exact HO_3.out) (Kd.R_base ho0) hb); have n1_ := Aside0.mk (Kd.R_elder' (by (with_reducible repeat (first | apply Kd.R_alloc | apply Kd.R_drewN | apply Kd.R_drew)); exact HO_4.out) (Kd.R_base ho0) hb); have n2_ := Aside0.mk (Kd.R_elder' (by (with_reducible repeat (first | apply Kd.R_alloc | apply Kd.R_drewN | apply Kd.R_drew)); exact HO_5.out) (Kd.R_base ho0) hb); have n3_ := Aside0.mk (Kd.R_lower (Kd.R_new' (Kd.R_new' (Kd.R_new' ho0 (Kd.R_lt (by (with_reducible repeat (first | apply Kd.R_alloc | apply Kd.R_drewN | apply Kd.R_drew)); exact HO_3.out))) (Kd.R_lt (by (with_reducible repeat (first | apply Kd.R_alloc | apply Kd.R_drewN | apply Kd.R_drew)); exact HO_4.out))) (Kd.R_lt (by (with_reducible repeat (first | apply Kd.R_alloc | apply Kd.R_drewN | apply Kd.R_drew)); exact HO_5.out))) (below_size (by repeat (first | (with_reducible first | exact HB.out | apply below_alloc | apply pw_below_drewN | apply below_drew1) | exact HB.out)))); have n4_ := Aside0.mk (below_step (by repeat (first | (with_reducible first | exact HB.out | apply below_alloc | apply pw_below_drewN | apply below_drew1) | exact HB.out)) hb); clear HO_3; clear HO_4; clear HO_5; clear HB; have HO_3 := n0_; have HO_4 := n1_; have HO_5 := n2_; have HO173 := n3_; have HB := n4_; clear n0_ n1_ n2_ n3_ n4_; (try clear hb); (try clear hb2); (try clear hk); (try clear hi); (try clear ho0); obtain ⟨Ao65, co65, eo65⟩ := Kd.R_slice HO173.out; subst eo65) | (go_at_call 9; (with_reducible refine (endonymlaw5_sameTexts.calls k2 _ _ t171 _ _ t165 t174 _ ?side1 ?side2 ?side3 ?side4 A60.out).mono ?_); (case side1 => repeat (first | exact (Kd.R_reads' HO173.out).2.2 | (with_reducible refine Kd.C_alloc ?_ _) | (with_reducible refine Kd.C_drewN ?_ _) | (with_reducible refine Kd.C_drew ?_))); (case side2 => exact (Kd.R_reads' HO173.out).2.1); (case side3 => repeat (first | exact (Kd.R_reads' HO_5.out).2.2 | (with_reducible refine Kd.C_alloc ?_ _) | (with_reducible refine Kd.C_drewN ?_ _) | (with_reducible refine Kd.C_drew ?_))); (case side4 => exact (Kd.R_reads' HO_5.out).2.1); rintro e w' ⟨rfl, ⟨nd, rfl⟩⟩))
                go_ret
                exact ⟨by first | rfl | (simp [errW_none, errW_some] <;> rfl) | (simp [*, errW_none, errW_some] <;> rfl), by repeat (first | (with_reducible first | exact HB.out | apply below_alloc | apply pw_below_drewN | apply below_drew1) | exact HB.out)⟩
              · replace c58 := Bool.eq_false_iff.mpr c58
                subst c58
                have H1 : (some false) = some r := by rw [if_neg (show ¬ (false = true) by decide)] at H; exact H
                clear H
                have H := H1
                clear H1
                obtain rfl := Option.some.inj H
                obtain ⟨Ao66, co66, eo66⟩ := Kd.R_slice HO_3.out
                subst eo66
                obtain ⟨Ao67, co67, eo67⟩ := Kd.R_slice HO_4.out
                subst eo67
                obtain ⟨Ao68, co68, eo68⟩ := Kd.R_slice HO_5.out
                subst eo68
                go_wp2_with (first | ((with_reducible refine gate_callee (f := 9) rfl ?_); refine goesL_ (some 86) rfl rfl Try.func9 (by kernel_rfl) rfl #[.slice Ao67 t162.length co67, .slice Ao68 t165.length co68] rfl (by (try simp only [List.map_toArray, List.map_cons, List.map_nil]); first | done | rfl | (simp only [List.length_drop, List.length_take]; rfl)) ?_; (with_reducible refine (endonymlaw5_sameTexts.calls k2 _ _ t162 _ _ t165 false _ ?side1 ?side2 ?side3 ?side4 A57.out).mono ?_); (case side1 => repeat (first | exact (Kd.R_reads' HO_4.out).2.2 | (with_reducible refine Kd.C_alloc ?_ _) | (with_reducible refine Kd.C_drewN ?_ _) | (with_reducible refine Kd.C_drew ?_))); (case side2 => exact (Kd.R_reads' HO_4.out).2.1); (case side3 => repeat (first | exact (Kd.R_reads' HO_5.out).2.2 | (with_reducible refine Kd.C_alloc ?_ _) | (with_reducible refine Kd.C_drewN ?_ _) | (with_reducible refine Kd.C_drew ?_))); (case side4 => exact (Kd.R_reads' HO_5.out).2.1); rintro e w' ⟨rfl, ⟨nd, rfl⟩⟩; refine ⟨_, rfl, ?_⟩))
                go_ret
                exact ⟨by first | rfl | (simp [errW_none, errW_some] <;> rfl) | (simp [*, errW_none, errW_some] <;> rfl), by repeat (first | (with_reducible first | exact HB.out | apply below_alloc | apply pw_below_drewN | apply below_drew1) | exact HB.out)⟩

/-! ### endonymref5_hex: function 24 -/
def endonymref5_hex.j0 : Nat → Int → Bool → Option (Int)
  | 0, _, _ => none
  | k + 1, x0, x3 => if x3 = true then (some ((x0 - 48) % 256)) else (if x0 ≥ 65 then (if x0 ≤ 70 then (some (((x0 - 65) % 256) + 10)) else (some (-1))) else (some (-1)))
def endonymref5_hex.f (k : Nat) (a0 : Int) : Option (Int) := if a0 ≥ 48 then (endonymref5_hex.j0 k a0 (decide (a0 ≤ 57))) else (endonymref5_hex.j0 k a0 false)
theorem endonymref5_hex.mono_l : ∀ k, (∀ y0 y1, LeO (endonymref5_hex.j0 k y0 y1) (endonymref5_hex.j0 (k + 1) y0 y1))
  | 0 => fun _ _ r h => by simp [endonymref5_hex.j0] at h
  | k + 1 => by
    have ih0 := endonymref5_hex.mono_l k
    · intro y0 y1
      unfold endonymref5_hex.j0
      repeat' first
      | (with_reducible exact ih0 _ _)
      | (with_reducible exact LeO.refl _)
      | (with_reducible exact LeO.none _)
      | (with_reducible refine LeO.ite ?_ ?_)
      | (with_reducible refine LeO.bind ?_ (fun _ => ?_))
      | exact ih0 _ _
      | exact LeO.none _
      | refine LeO.ite ?_ ?_
      | refine LeO.bind ?_ (fun _ => ?_)
theorem endonymref5_hex.mono : ∀ a0 k, LeO (endonymref5_hex.f k a0) (endonymref5_hex.f (k + 1) a0) := by
  intro a0 k
  have ih0 := endonymref5_hex.mono_l k
  unfold endonymref5_hex.f
  repeat' first
      | (with_reducible exact ih0 _ _)
      | (with_reducible exact LeO.refl _)
      | (with_reducible exact LeO.none _)
      | (with_reducible refine LeO.ite ?_ ?_)
      | (with_reducible refine LeO.bind ?_ (fun _ => ?_))
      | exact ih0 _ _
      | exact LeO.none _
      | refine LeO.ite ?_ ?_
      | refine LeO.bind ?_ (fun _ => ?_)
set_option maxHeartbeats 8000000 in
set_option maxRecDepth 100000 in
theorem endonymref5_hex.calls (k : Nat) (a0 : Int) (r : Int) (w : World) (h : endonymref5_hex.f k a0 = some r) :
    Calls Try.prog 24 #[.int .u8 a0] w fun e w' => e = .returned (.int .i64 r) ∧ Drawn0 w w' := by
  have H : (if a0 ≥ 48 then (endonymref5_hex.j0 k a0 (decide (a0 ≤ 57))) else (endonymref5_hex.j0 k a0 false)) = some r := h
  clear h
  have HC2 := Aside0.mk H
  clear H
  go_enter Try.func24, Try.ntmps24
  go_upto_region 1 with (fail)
  go_cut [3] (fun v3 wc => ∃ (kq : Nat) (x3_1 : Bool), v3 = .bool x3_1 ∧ Aside0 (endonymref5_hex.j0 kq a0 x3_1 = some r) ∧ Aside0 (kq ≤ k) ∧ Drawn0 w wc)
  case first =>
    have H := HC2.out
    clear HC2
    by_cases c3 : a0 ≥ 48
    · rw [if_pos c3] at H
      have c3b0 : decide (48 ≤ a0) = true := decide_eq_true c3
      clear c3
      (first | rw [c3b0] | (simp only [i64_w, i32_w]; rw [c3b0]) | skip)
      have H' := Aside0.mk H
      clear H
      go_wp2
      go_meet
      case rel => exact ⟨_, (decide (a0 ≤ 57)), (by first | rfl | (simp; done) | (simp [*]; done)), H', ⟨by first | omega | exact Nat.le_refl _⟩, by repeat (first | exact Drawn0.refl _ | apply Drawn0.step)⟩
    · rw [if_neg c3] at H
      have c3b0 : decide (48 ≤ a0) = false := decide_eq_false c3
      clear c3
      (first | rw [c3b0] | (simp only [i64_w, i32_w]; rw [c3b0]) | skip)
      have H' := Aside0.mk H
      clear H
      go_wp2
      go_meet
      case rel => exact ⟨_, (false), (by first | rfl | (simp; done) | (simp [*]; done)), H', ⟨by first | omega | exact Nat.le_refl _⟩, by repeat (first | exact Drawn0.refl _ | apply Drawn0.step)⟩
  case rest =>
    clear HC2
    try clear c2
    try clear p2
    try clear c3
    try clear c3b0
    obtain ⟨kq, x3_1, rfl, HA, HJ1, ⟨mc1, rfl⟩⟩ := hcut
    cases kq with
    | zero => exact absurd HA.out (by simp [endonymref5_hex.j0])
    | succ kj1 =>
      have H := HA.out
      clear HA
      simp only [endonymref5_hex.j0] at H
      by_cases c4 : x3_1 = true
      · subst c4
        have H1 : (some ((a0 - 48) % 256)) = some r := by rw [if_pos rfl] at H; exact H
        clear H
        have H := H1
        clear H1
        obtain rfl := Option.some.inj H
        go_wp2
        go_ret
        exact ⟨by first | rfl | (simp; done) | (simp [*]; done), by repeat (first | exact Drawn0.refl _ | apply Drawn0.step)⟩
      · replace c4 := Bool.eq_false_iff.mpr c4
        subst c4
        have H1 : (if a0 ≥ 65 then (if a0 ≤ 70 then (some (((a0 - 65) % 256) + 10)) else (some (-1))) else (some (-1))) = some r := by rw [if_neg (show ¬ (false = true) by decide)] at H; exact H
        clear H
        have H := H1
        clear H1
        by_cases c5 : a0 ≥ 65
        · rw [if_pos c5] at H
          have c5b0 : decide (65 ≤ a0) = true := decide_eq_true c5
          clear c5
          by_cases c6 : a0 ≤ 70
          · rw [if_pos c6] at H
            have c6b0 : decide (a0 ≤ 70) = true := decide_eq_true c6
            clear c6
            obtain rfl := Option.some.inj H
            go_wp2
            go_ret
            exact ⟨by first | rfl | (simp; done) | (simp [*]; done), by repeat (first | exact Drawn0.refl _ | apply Drawn0.step)⟩
          · rw [if_neg c6] at H
            have c6b0 : decide (a0 ≤ 70) = false := decide_eq_false c6
            clear c6
            obtain rfl := Option.some.inj H
            go_wp2
            go_ret
            exact ⟨by first | rfl | (simp; done) | (simp [*]; done), by repeat (first | exact Drawn0.refl _ | apply Drawn0.step)⟩
        · rw [if_neg c5] at H
          have c5b0 : decide (65 ≤ a0) = false := decide_eq_false c5
          clear c5
          obtain rfl := Option.some.inj H
          go_wp2
          go_ret
          exact ⟨by first | rfl | (simp; done) | (simp [*]; done), by repeat (first | exact Drawn0.refl _ | apply Drawn0.step)⟩

end Go.Proofs.Ytplnakmpogepmab.A
