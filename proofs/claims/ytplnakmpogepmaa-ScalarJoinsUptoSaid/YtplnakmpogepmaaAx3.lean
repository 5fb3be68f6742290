import Derived.Test.YtplnakmpogepmaaAx0
import Derived.Test.YtplnakmpogepmaaAx2
namespace Go.Proofs.Ytplnakmpogepmaa.A
open Go.RowKit Go.Proofs.YtplnakmpogepmaaW.PrintWords Go.Proofs.YtplnakmpogepmaaW.PrintLast Go.Proofs.YtplnakmpogepmaaW.PrintMore
set_option maxHeartbeats 8000000
set_option maxRecDepth 100000
attribute [local go_sem] max2_int min2_int max_two min_two max_three min_three max_four min_four
set_option linter.unusedVariables false
set_option linter.unusedSimpArgs false
mutual
def endonymlaw3_ScalarJoins.l0 : Nat → List (List Int) → List (List Int) → Int → Option (Bool)
 | 0, _, _, _ => none
 | k + 1, x0, x3, x4 => if x4 < (x0.length : Int) then (if 0 ≤ x4 then ((endonymlaw3_roomy.f (rd_L1 x0 x4)).bind fun t204 => (if x3.length < 5864062014805 then (endonymlaw3_ScalarJoins.l0 k x0 (x3 ++ [t204]) (wrap64 (x4 + 1))) else (none))) else (none)) else ((scalar_Join.f k x3).bind fun t210 => ((endonymlaw3_told.f k).bind fun t213 => (if t213 = true then ((endonymref3_Join.f k x0).bind fun t214 => ((endonymref3_Same.f k t210 t214).bind fun t217 => (endonymlaw3_ScalarJoins.j1 k x0 x3 t210 (!t217)))) else (endonymlaw3_ScalarJoins.j1 k x0 x3 t210 true))))
def endonymlaw3_ScalarJoins.j1 : Nat → List (List Int) → List (List Int) → List Int → Bool → Option (Bool)
 | 0, _, _, _, _ => none
 | k + 1, x0, x3, x5, x32 => if x32 = true then (some false) else (endonymlaw3_ScalarJoins.l1 k x0 x3 x5 0)
def endonymlaw3_ScalarJoins.l1 : Nat → List (List Int) → List (List Int) → List Int → Int → Option (Bool)
 | 0, _, _, _, _ => none
 | k + 1, x0, x3, x5, x6 => if x6 < (x5.length : Int) then (if 0 ≤ x6 then (endonymlaw3_ScalarJoins.l1 k x0 x3 (x5.set (x6 : Int).toNat (-9)) (wrap64 (x6 + 1))) else (none)) else (endonymlaw3_ScalarJoins.l2 k x0 x3 0)
def endonymlaw3_ScalarJoins.l2 : Nat → List (List Int) → List (List Int) → Int → Option (Bool)
 | 0, _, _, _ => none
 | k + 1, x0, x3, x7 => if x7 < (x0.length : Int) then (if 0 ≤ x7 then (if x7 < (x3.length : Int) then ((endonymlaw3_whole.f k (rd_L1 x3 x7) (rd_L1 x0 x7)).bind fun t221 => (if t221 = true then (endonymlaw3_ScalarJoins.l2 k x0 x3 (wrap64 (x7 + 1))) else (some false))) else (none)) else (none)) else (some true)
end
def endonymlaw3_ScalarJoins.f (k : Nat) (l0 : List (List Int)) : Option (Bool) := endonymlaw3_ScalarJoins.l0 k l0 ([] : List (List Int)) 0
theorem endonymlaw3_ScalarJoins.mono_l : ∀ k, (∀ y0 y1 y2, LeO (endonymlaw3_ScalarJoins.l0 k y0 y1 y2) (endonymlaw3_ScalarJoins.l0 (k + 1) y0 y1 y2)) ∧ (∀ y0 y1 y2 y3, LeO (endonymlaw3_ScalarJoins.j1 k y0 y1 y2 y3) (endonymlaw3_ScalarJoins.j1 (k + 1) y0 y1 y2 y3)) ∧ (∀ y0 y1 y2 y3, LeO (endonymlaw3_ScalarJoins.l1 k y0 y1 y2 y3) (endonymlaw3_ScalarJoins.l1 (k + 1) y0 y1 y2 y3)) ∧ (∀ y0 y1 y2, LeO (endonymlaw3_ScalarJoins.l2 k y0 y1 y2) (endonymlaw3_ScalarJoins.l2 (k + 1) y0 y1 y2))
 | 0 => ⟨fun _ _ _ r h => by simp [endonymlaw3_ScalarJoins.l0] at h, fun _ _ _ _ r h => by simp [endonymlaw3_ScalarJoins.j1] at h, fun _ _ _ _ r h => by simp [endonymlaw3_ScalarJoins.l1] at h, fun _ _ _ r h => by simp [endonymlaw3_ScalarJoins.l2] at h⟩
 | k + 1 => by
  obtain ⟨ih0, ih1, ih2, ih3⟩ := endonymlaw3_ScalarJoins.mono_l k
  refine ⟨?_, ?_, ?_, ?_⟩
  ·intro y0 y1 y2
   unfold endonymlaw3_ScalarJoins.l0
   repeat' first | (with_reducible first | apply ih0 | apply ih1 | apply ih2 | apply ih3 | apply endonymlaw3_told.mono | apply endonymlaw3_whole.mono | apply endonymref3_Join.mono | apply endonymref3_Same.mono | apply scalar_Join.mono | apply LeO.refl | apply LeO.none | refine LeO.ite ?_ ?_ | refine LeO.bind ?_ (fun _ => ?_)) | apply LeO.none | refine LeO.ite ?_ ?_ | refine LeO.bind ?_ (fun _ => ?_)
  ·intro y0 y1 y2 y3
   unfold endonymlaw3_ScalarJoins.j1
   repeat' first | (with_reducible first | apply ih0 | apply ih1 | apply ih2 | apply ih3 | apply endonymlaw3_told.mono | apply endonymlaw3_whole.mono | apply endonymref3_Join.mono | apply endonymref3_Same.mono | apply scalar_Join.mono | apply LeO.refl | apply LeO.none | refine LeO.ite ?_ ?_ | refine LeO.bind ?_ (fun _ => ?_)) | apply LeO.none | refine LeO.ite ?_ ?_ | refine LeO.bind ?_ (fun _ => ?_)
  ·intro y0 y1 y2 y3
   unfold endonymlaw3_ScalarJoins.l1
   repeat' first | (with_reducible first | apply ih0 | apply ih1 | apply ih2 | apply ih3 | apply endonymlaw3_told.mono | apply endonymlaw3_whole.mono | apply endonymref3_Join.mono | apply endonymref3_Same.mono | apply scalar_Join.mono | apply LeO.refl | apply LeO.none | refine LeO.ite ?_ ?_ | refine LeO.bind ?_ (fun _ => ?_)) | apply LeO.none | refine LeO.ite ?_ ?_ | refine LeO.bind ?_ (fun _ => ?_)
  intro y0 y1 y2
  unfold endonymlaw3_ScalarJoins.l2
  repeat' first | (with_reducible first | apply ih0 | apply ih1 | apply ih2 | apply ih3 | apply endonymlaw3_told.mono | apply endonymlaw3_whole.mono | apply endonymref3_Join.mono | apply endonymref3_Same.mono | apply scalar_Join.mono | apply LeO.refl | apply LeO.none | refine LeO.ite ?_ ?_ | refine LeO.bind ?_ (fun _ => ?_)) | apply LeO.none | refine LeO.ite ?_ ?_ | refine LeO.bind ?_ (fun _ => ?_)
theorem endonymlaw3_ScalarJoins.mono : ∀ a0 k, LeO (endonymlaw3_ScalarJoins.f k a0) (endonymlaw3_ScalarJoins.f (k + 1) a0) := by
 intro a0 k
 obtain ⟨ih0, ih1, ih2, ih3⟩ := endonymlaw3_ScalarJoins.mono_l k
 unfold endonymlaw3_ScalarJoins.f
 repeat' first | (with_reducible first | apply ih0 | apply ih1 | apply ih2 | apply ih3 | apply endonymlaw3_told.mono | apply endonymlaw3_whole.mono | apply endonymref3_Join.mono | apply endonymref3_Same.mono | apply scalar_Join.mono | apply LeO.refl | apply LeO.none | refine LeO.ite ?_ ?_ | refine LeO.bind ?_ (fun _ => ?_)) | apply LeO.none | refine LeO.ite ?_ ?_ | refine LeO.bind ?_ (fun _ => ?_)
theorem slack_L1 {ex : List Value} {w : World} {A : Option Addr} {n : Nat} {xs : List (List Int)} (h : (Rm.slack 21 (Kd.int .i32) ex).C w A n xs) (i : Int) (h0 : 0 ≤ i) (h1 : i < n) : ∃ ad A0 c0, A = some ad ∧ w.cell? (ad.add i.toNat) = some (.slice A0 (rd_L1 xs i).length c0) ∧ (rd_L1 xs i).length ≤ c0 ∧ (Kd.int .i32).C w A0 (rd_L1 xs i).length (rd_L1 xs i) ∧ Rm.Room w (.slice A0 (rd_L1 xs i).length c0) (rd_L1 xs i).length ex := Rm.slack_at h i h0 h1
theorem endonymlaw3_ScalarJoins.calls (k : Nat) (A0 : Option Addr) (c0 : Nat) (l0 : List (List Int)) (r : Bool) (w : World) (hr0 : Kd.C (Kd.slice 21 (Kd.int .i32)) w A0 l0.length l0) (hc0 : l0.length ≤ c0) (h : endonymlaw3_ScalarJoins.f k l0 = some r) :
  Calls Try.prog 8 #[.slice A0 l0.length c0] w fun e w' => e = .returned (.bool r) ∧ Below w.heap.size w w' := by
 have HR0 := Aside0.mk hr0
 have HC0 := Aside0.mk hc0
 clear hr0 hc0
 have HB := Aside0.mk (Below.refl w.heap.size w)
 have H : (endonymlaw3_ScalarJoins.l0 k l0 ([] : List (List Int)) 0) = some r := h
 clear h
 have H' := Aside0.mk H
 clear H
 go_enter Try.func8, Try.ntmps8
 go_wp2
 repeat (go_quiet (fail); try go_wp2)
 go_loopg [3, 4] k (fun kq v3 v4 w' => ∃ (x3_1 : List (List Int)) (x4_1 : Int), v4 = .int .i64 x4_1 ∧ Aside0 (endonymlaw3_ScalarJoins.l0 kq l0 x3_1 x4_1 = some r) ∧ Aside0 (kq ≤ k) ∧ Aside0 (Kd.S (Rm.slack 21 (Kd.int .i32) [.int .i32 (-7), .int .i32 (-8)]) 22 w' w.heap.size (fun _ => True) v3 x3_1) ∧ Aside0 (Below w.heap.size w w'))
 case atStart => exact ⟨(([] : List (List Int))), (0), sqE, H', ⟨Nat.le_refl _⟩, ⟨by first | exact Kd.S_nil _ _ _ _ _ | exact Kd.N_nil _ _ _ _ _ | exact Kd.V_nil _ _ _ _ _ | exact Kd.Q_nil _ _ _ _ _ | exact Kd.R_nil _ _ _ _ _⟩, ⟨sqB⟩⟩
 case round =>
  clear H'
  obtain ⟨x3_1, x4_1, rfl, HA, HK1, HO_3, HB⟩ := hrel
  cases gk with
  | zero => exact absurd HA.out (by simp [endonymlaw3_ScalarJoins.l0])
  | succ k1 =>
   have H := HA.out
   clear HA
   simp only [endonymlaw3_ScalarJoins.l0] at H
   by_cases c2 : x4_1 < (l0.length : Int)
   ·rw [if_pos c2] at H
    have c2b0 := decide_eq_true c2
    clear c2
    by_cases c3 : 0 ≤ x4_1
    case neg => rw [if_neg c3] at H; exact absurd H (by simp)
    rw [if_pos c3] at H
    have c3b0 := decide_eq_true c3
    clear c3
    obtain ⟨t204, A4, H⟩ := sqO H
    try dsimp only at H
    by_cases c5 : x3_1.length < 5864062014805
    case neg => rw [if_neg c5] at H; exact absurd H (by simp)
    rw [if_pos c5] at H
    have LMc5 := Aside0.mk c5
    clear c5
    obtain ⟨y207, hy207⟩ : ∃ y_ : List (List Int), y_ = (x3_1 ++ [t204]) := ⟨_, rfl⟩
    replace H : (endonymlaw3_ScalarJoins.l0 k1 l0 y207 (wrap64 (x4_1 + 1))) = some r := by first | (rw [hy207]; with_reducible exact H) | (have H2_ := (Option.bind_some _ _).symm.trans H; rw [hy207]; with_reducible exact H2_) | (have H2_ := (Option.bind_some _ _).symm.trans H; with_reducible exact H2_) | with_reducible exact H | (rw [hy207]; exact H) | exact H
    have Ny207 := Aside0.mk hy207
    clear hy207
    have H' := Aside0.mk H
    clear H
    have p203 : 0 ≤ (x4_1 : Int) := sqD
    have q203 : x4_1 < (l0.length : Int) := sqD
    obtain ⟨ad203, A203_0, c203_0, e203, hx203_0, hl203_0, hi203_0⟩ := at_L1 HR0.out x4_1 p203 q203
    cases e203
    replace hx203_0 := (HB.out.cell (World.block_lt_of_cell? w _ hx203_0)).trans hx203_0
    have HR203_0 := Aside0.mk hi203_0
    have HC203_0 := Aside0.mk hl203_0
    clear hi203_0 hl203_0
    replace p203 := eq_true p203
    replace q203 := eq_true q203
    go_wp2_with (first | (go_at_call 15; (with_reducible refine (endonymlaw3_roomy.calls _ _ (rd_L1 l0 x4_1) t204 _ ?side1 ?side2 A4.out).mono ?_); (case side1 => repeat (first | exact (Kd.C_below HR203_0.out HB.out) | (with_reducible refine Kd.C_alloc ?_ _) | (with_reducible refine Kd.C_drewN ?_ _) | (with_reducible refine Kd.C_drew ?_))); (case side2 => exact HC203_0.out); rintro e w6 ⟨v205, rfl, ho0, hb, hrm_⟩; have HRm := Aside0.mk hrm_; clear hrm_; have n0_ := Aside0.mk (Kd.S_elder' (by (with_reducible repeat (first | apply Kd.S_alloc | apply Kd.S_drewN | apply Kd.S_drew)); exact HO_3.out) (Kd.R_base ho0) hb); have n1_ := Aside0.mk (Kd.R_lower ho0 (below_size sqB)); have n2_ := Aside0.mk (below_step sqB hb); clear HO_3; clear HB; have HO_3 := n0_; have HO206 := n1_; have HB := n2_; clear n0_ n1_ n2_; (try clear hb); (try clear hb2); (try clear hk); (try clear hi); (try clear ho0); obtain ⟨Ao8, co8, eo8⟩ := Kd.R_slice HO206.out; subst eo8) | ((with_reducible refine gate_builtin (b := .append) (xs := #[.tmp 14, .tmp 20]) rfl ?_); at_builtin; refine Kd.S_append (Rm.slack 21 (Kd.int .i32) [.int .i32 (-7), .int .i32 (-8)]) (w0 := w) w.heap.size rfl (.tmp 14) (.tmp 20) 32 22 (.slice none 0 0) 24 rfl Try.underlying32 info22 rfl (by decide) (by omega) u3 x3_1 t204 [.slice Ao8 t204.length co8] (fun _ => True) (fun k_ => some k_ = (.slice Ao8 t204.length co8 : Value).ownBlock) rfl rfl ?aP (fun k_ hk_ => ((Kd.R_mono (ok' := fun k_ => ((fun _ => True)) k_ ∧ some k_ ≠ (u3 : Value).ownBlock) (Kd.R_apart' (HO206.out) (Kd.S_typed HO_3.out) (by decide)) (fun k_ hk => ⟨trivial, hk.2⟩))).1 k_ hk_.symm) ?aF ?aO ?aB ?aS ?aL ?_; (case aP => exact Rm.slack_row (Kd.R_mono (Kd.R_tight rfl (Kd.R_mono (ok' := fun k_ => ((fun _ => True)) k_ ∧ some k_ ≠ (u3 : Value).ownBlock) (Kd.R_apart' (HO206.out) (Kd.S_typed HO_3.out) (by decide)) (fun k_ hk => ⟨trivial, hk.2⟩))) (fun _ h_ => h_)) (by (with_reducible repeat (first | apply Rm.Room.alloc | apply Rm.Room.drewN | apply Rm.Room.drew)); exact HRm.out)); (case aB => exact sqB); (case aF => exact (fun _ _ => trivial)); (case aO => exact (by (with_reducible repeat (first | apply Kd.S_alloc | apply Kd.S_drewN | apply Kd.S_drew)); exact Kd.S_mono HO_3.out (fun k_ hk => ⟨trivial, fun e_ => hk.2 e_⟩))); (case aS => exact (below_size sqB)); (case aL => have := LMc5.out; omega); intro v208 w7 ho hb hg hat; rw [← Ny207.out] at ho; have n0_ := Aside0.mk (hb); have n1_ := Aside0.mk (ho); clear HB; clear HO_3; clear HO206; have HB := n0_; have HO209 := n1_; clear n0_ n1_; clear ho hb hg hat))
    repeat (go_quiet (first | (go_at_call 15; (with_reducible refine (endonymlaw3_roomy.calls _ _ (rd_L1 l0 x4_1) t204 _ ?side1 ?side2 A4.out).mono ?_); (case side1 => repeat (first | exact (Kd.C_below HR203_0.out HB.out) | (with_reducible refine Kd.C_alloc ?_ _) | (with_reducible refine Kd.C_drewN ?_ _) | (with_reducible refine Kd.C_drew ?_))); (case side2 => exact HC203_0.out); rintro e w6 ⟨v205, rfl, ho0, hb, hrm_⟩; have HRm := Aside0.mk hrm_; clear hrm_; have n0_ := Aside0.mk (Kd.S_elder' (by (with_reducible repeat (first | apply Kd.S_alloc | apply Kd.S_drewN | apply Kd.S_drew)); exact HO_3.out) (Kd.R_base ho0) hb); have n1_ := Aside0.mk (Kd.R_lower ho0 (below_size sqB)); have n2_ := Aside0.mk (below_step sqB hb); clear HO_3; clear HB; have HO_3 := n0_; have HO206 := n1_; have HB := n2_; clear n0_ n1_ n2_; (try clear hb); (try clear hb2); (try clear hk); (try clear hi); (try clear ho0); obtain ⟨Ao8, co8, eo8⟩ := Kd.R_slice HO206.out; subst eo8) | ((with_reducible refine gate_builtin (b := .append) (xs := #[.tmp 14, .tmp 20]) rfl ?_); at_builtin; refine Kd.S_append (Rm.slack 21 (Kd.int .i32) [.int .i32 (-7), .int .i32 (-8)]) (w0 := w) w.heap.size rfl (.tmp 14) (.tmp 20) 32 22 (.slice none 0 0) 24 rfl Try.underlying32 info22 rfl (by decide) (by omega) u3 x3_1 t204 [.slice Ao8 t204.length co8] (fun _ => True) (fun k_ => some k_ = (.slice Ao8 t204.length co8 : Value).ownBlock) rfl rfl ?aP (fun k_ hk_ => ((Kd.R_mono (ok' := fun k_ => ((fun _ => True)) k_ ∧ some k_ ≠ (u3 : Value).ownBlock) (Kd.R_apart' (HO206.out) (Kd.S_typed HO_3.out) (by decide)) (fun k_ hk => ⟨trivial, hk.2⟩))).1 k_ hk_.symm) ?aF ?aO ?aB ?aS ?aL ?_; (case aP => exact Rm.slack_row (Kd.R_mono (Kd.R_tight rfl (Kd.R_mono (ok' := fun k_ => ((fun _ => True)) k_ ∧ some k_ ≠ (u3 : Value).ownBlock) (Kd.R_apart' (HO206.out) (Kd.S_typed HO_3.out) (by decide)) (fun k_ hk => ⟨trivial, hk.2⟩))) (fun _ h_ => h_)) (by (with_reducible repeat (first | apply Rm.Room.alloc | apply Rm.Room.drewN | apply Rm.Room.drew)); exact HRm.out)); (case aB => exact sqB); (case aF => exact (fun _ _ => trivial)); (case aO => exact (by (with_reducible repeat (first | apply Kd.S_alloc | apply Kd.S_drewN | apply Kd.S_drew)); exact Kd.S_mono HO_3.out (fun k_ hk => ⟨trivial, fun e_ => hk.2 e_⟩))); (case aS => exact (below_size sqB)); (case aL => have := LMc5.out; omega); intro v208 w7 ho hb hg hat; rw [← Ny207.out] at ho; have n0_ := Aside0.mk (hb); have n1_ := Aside0.mk (ho); clear HB; clear HO_3; clear HO206; have HB := n0_; have HO209 := n1_; clear n0_ n1_; clear ho hb hg hat)); try go_wp2_with (first | (go_at_call 15; (with_reducible refine (endonymlaw3_roomy.calls _ _ (rd_L1 l0 x4_1) t204 _ ?side1 ?side2 A4.out).mono ?_); (case side1 => repeat (first | exact (Kd.C_below HR203_0.out HB.out) | (with_reducible refine Kd.C_alloc ?_ _) | (with_reducible refine Kd.C_drewN ?_ _) | (with_reducible refine Kd.C_drew ?_))); (case side2 => exact HC203_0.out); rintro e w6 ⟨v205, rfl, ho0, hb, hrm_⟩; have HRm := Aside0.mk hrm_; clear hrm_; have n0_ := Aside0.mk (Kd.S_elder' (by (with_reducible repeat (first | apply Kd.S_alloc | apply Kd.S_drewN | apply Kd.S_drew)); exact HO_3.out) (Kd.R_base ho0) hb); have n1_ := Aside0.mk (Kd.R_lower ho0 (below_size sqB)); have n2_ := Aside0.mk (below_step sqB hb); clear HO_3; clear HB; have HO_3 := n0_; have HO206 := n1_; have HB := n2_; clear n0_ n1_ n2_; (try clear hb); (try clear hb2); (try clear hk); (try clear hi); (try clear ho0); obtain ⟨Ao8, co8, eo8⟩ := Kd.R_slice HO206.out; subst eo8) | ((with_reducible refine gate_builtin (b := .append) (xs := #[.tmp 14, .tmp 20]) rfl ?_); at_builtin; refine Kd.S_append (Rm.slack 21 (Kd.int .i32) [.int .i32 (-7), .int .i32 (-8)]) (w0 := w) w.heap.size rfl (.tmp 14) (.tmp 20) 32 22 (.slice none 0 0) 24 rfl Try.underlying32 info22 rfl (by decide) (by omega) u3 x3_1 t204 [.slice Ao8 t204.length co8] (fun _ => True) (fun k_ => some k_ = (.slice Ao8 t204.length co8 : Value).ownBlock) rfl rfl ?aP (fun k_ hk_ => ((Kd.R_mono (ok' := fun k_ => ((fun _ => True)) k_ ∧ some k_ ≠ (u3 : Value).ownBlock) (Kd.R_apart' (HO206.out) (Kd.S_typed HO_3.out) (by decide)) (fun k_ hk => ⟨trivial, hk.2⟩))).1 k_ hk_.symm) ?aF ?aO ?aB ?aS ?aL ?_; (case aP => exact Rm.slack_row (Kd.R_mono (Kd.R_tight rfl (Kd.R_mono (ok' := fun k_ => ((fun _ => True)) k_ ∧ some k_ ≠ (u3 : Value).ownBlock) (Kd.R_apart' (HO206.out) (Kd.S_typed HO_3.out) (by decide)) (fun k_ hk => ⟨trivial, hk.2⟩))) (fun _ h_ => h_)) (by (with_reducible repeat (first | apply Rm.Room.alloc | apply Rm.Room.drewN | apply Rm.Room.drew)); exact HRm.out)); (case aB => exact sqB); (case aF => exact (fun _ _ => trivial)); (case aO => exact (by (with_reducible repeat (first | apply Kd.S_alloc | apply Kd.S_drewN | apply Kd.S_drew)); exact Kd.S_mono HO_3.out (fun k_ hk => ⟨trivial, fun e_ => hk.2 e_⟩))); (case aS => exact (below_size sqB)); (case aL => have := LMc5.out; omega); intro v208 w7 ho hb hg hat; rw [← Ny207.out] at ho; have n0_ := Aside0.mk (hb); have n1_ := Aside0.mk (ho); clear HB; clear HO_3; clear HO206; have HB := n0_; have HO209 := n1_; clear n0_ n1_; clear ho hb hg hat)))
    go_roundg k1
    case measure => have := HK1.out; omega
    case rel => exact ⟨(y207), (wrap64 (x4_1 + 1)), sqE, H', ⟨by have := HK1.out; omega⟩, ⟨by (with_reducible repeat (first | apply Kd.S_alloc | apply Kd.S_drewN | apply Kd.S_drew)); exact HO209.out⟩, ⟨sqB⟩⟩
   rw [if_neg c2] at H
   have c2b0 := decide_eq_false c2
   clear c2
   obtain ⟨t210, A9, H⟩ := sqO H
   try dsimp only at H
   have HC10 := Aside0.mk H
   clear H
   obtain ⟨Ao11, co11, eo11⟩ := Kd.S_slice HO_3.out
   subst eo11
   go_upto_region 7 with (first | (go_at_call 21; (with_reducible refine (scalar_Join.calls k1 _ _ x3_1 t210 _ ?side1 ?side2 A9.out).mono ?_); (case side1 => repeat (first | exact Rm.slack_C (Kd.S_reads' HO_3.out).2.2 | (with_reducible refine Kd.C_alloc ?_ _) | (with_reducible refine Kd.C_drewN ?_ _) | (with_reducible refine Kd.C_drew ?_))); (case side2 => exact (Kd.S_reads' HO_3.out).2.1); rintro e w12 ⟨v211, rfl, ho0, hb⟩; have n0_ := Aside0.mk (Kd.S_elder' (by (with_reducible repeat (first | apply Kd.S_alloc | apply Kd.S_drewN | apply Kd.S_drew)); exact HO_3.out) (Kd.R_base ho0) hb); have n1_ := Aside0.mk (Kd.R_lower ho0 (below_size sqB)); have n2_ := Aside0.mk (below_step sqB hb); clear HO_3; clear HB; have HO_3 := n0_; have HO212 := n1_; have HB := n2_; clear n0_ n1_ n2_; (try clear hb); (try clear hb2); (try clear hk); (try clear hi); (try clear ho0)))
   repeat (go_quiet (first | (go_at_call 21; (with_reducible refine (scalar_Join.calls k1 _ _ x3_1 t210 _ ?side1 ?side2 A9.out).mono ?_); (case side1 => repeat (first | exact Rm.slack_C (Kd.S_reads' HO_3.out).2.2 | (with_reducible refine Kd.C_alloc ?_ _) | (with_reducible refine Kd.C_drewN ?_ _) | (with_reducible refine Kd.C_drew ?_))); (case side2 => exact (Kd.S_reads' HO_3.out).2.1); rintro e w12 ⟨v211, rfl, ho0, hb⟩; have n0_ := Aside0.mk (Kd.S_elder' (by (with_reducible repeat (first | apply Kd.S_alloc | apply Kd.S_drewN | apply Kd.S_drew)); exact HO_3.out) (Kd.R_base ho0) hb); have n1_ := Aside0.mk (Kd.R_lower ho0 (below_size sqB)); have n2_ := Aside0.mk (below_step sqB hb); clear HO_3; clear HB; have HO_3 := n0_; have HO212 := n1_; have HB := n2_; clear n0_ n1_ n2_; (try clear hb); (try clear hb2); (try clear hk); (try clear hi); (try clear ho0))); go_upto_region 7 with (first | (go_at_call 21; (with_reducible refine (scalar_Join.calls k1 _ _ x3_1 t210 _ ?side1 ?side2 A9.out).mono ?_); (case side1 => repeat (first | exact Rm.slack_C (Kd.S_reads' HO_3.out).2.2 | (with_reducible refine Kd.C_alloc ?_ _) | (with_reducible refine Kd.C_drewN ?_ _) | (with_reducible refine Kd.C_drew ?_))); (case side2 => exact (Kd.S_reads' HO_3.out).2.1); rintro e w12 ⟨v211, rfl, ho0, hb⟩; have n0_ := Aside0.mk (Kd.S_elder' (by (with_reducible repeat (first | apply Kd.S_alloc | apply Kd.S_drewN | apply Kd.S_drew)); exact HO_3.out) (Kd.R_base ho0) hb); have n1_ := Aside0.mk (Kd.R_lower ho0 (below_size sqB)); have n2_ := Aside0.mk (below_step sqB hb); clear HO_3; clear HB; have HO_3 := n0_; have HO212 := n1_; have HB := n2_; clear n0_ n1_ n2_; (try clear hb); (try clear hb2); (try clear hk); (try clear hi); (try clear ho0))))
   (try simp only [Act.put, List.setIfInBounds_toArray, List.set_cons_zero, List.set_cons_succ])
   go_cut [32] (fun v32 wc => ∃ (kq : Nat) (x32_9 : Bool), v32 = .bool x32_9 ∧ Aside0 (endonymlaw3_ScalarJoins.j1 kq l0 x3_1 t210 x32_9 = some r) ∧ Aside0 (kq ≤ k1) ∧ Aside0 (Kd.S (Rm.slack 21 (Kd.int .i32) [.int .i32 (-7), .int .i32 (-8)]) 22 wc w.heap.size (fun k_ => some k_ ≠ (v211 : Value).ownBlock) (.slice Ao11 x3_1.length co11) x3_1) ∧ Aside0 (Kd.R (Kd.int .i32) 21 wc w.heap.size (fun _ => True) v211 t210) ∧ Aside0 (Below w.heap.size w wc))
   case first =>
    have H := HC10.out
    clear HC10
    obtain ⟨t213, A13, H⟩ := sqO H
    try dsimp only at H
    by_cases c14 : t213 = true
    case neg =>
     replace c14 := Bool.eq_false_iff.mpr c14
     subst c14
     have H1 : (endonymlaw3_ScalarJoins.j1 k1 l0 x3_1 t210 true) = some r := by rw [if_neg (show ¬ (false = true) by decide)] at H; exact H
     clear H
     have H := H1
     clear H1
     have H' := Aside0.mk H
     clear H
     go_wp2_with (first | (go_at_call 13; (with_reducible refine (endonymlaw3_told.calls k1  false _ A13.out).mono ?_); rintro e w21 ⟨rfl, hb⟩; have n0_ := Aside0.mk (Kd.S_below (by (with_reducible repeat (first | apply Kd.S_alloc | apply Kd.S_drewN | apply Kd.S_drew)); exact HO_3.out) hb); have n1_ := Aside0.mk (Kd.R_below (sqR HO212.out) hb); have n2_ := Aside0.mk (below_step sqB hb); clear HO_3; clear HO212; clear HB; have HO_3 := n0_; have HO212 := n1_; have HB := n2_; clear n0_ n1_ n2_; (try clear hb); (try clear hb2); (try clear hk); (try clear hi)))
     repeat (go_quiet (first | (go_at_call 13; (with_reducible refine (endonymlaw3_told.calls k1  false _ A13.out).mono ?_); rintro e w21 ⟨rfl, hb⟩; have n0_ := Aside0.mk (Kd.S_below (by (with_reducible repeat (first | apply Kd.S_alloc | apply Kd.S_drewN | apply Kd.S_drew)); exact HO_3.out) hb); have n1_ := Aside0.mk (Kd.R_below (sqR HO212.out) hb); have n2_ := Aside0.mk (below_step sqB hb); clear HO_3; clear HO212; clear HB; have HO_3 := n0_; have HO212 := n1_; have HB := n2_; clear n0_ n1_ n2_; (try clear hb); (try clear hb2); (try clear hk); (try clear hi))); try go_wp2_with (first | (go_at_call 13; (with_reducible refine (endonymlaw3_told.calls k1  false _ A13.out).mono ?_); rintro e w21 ⟨rfl, hb⟩; have n0_ := Aside0.mk (Kd.S_below (by (with_reducible repeat (first | apply Kd.S_alloc | apply Kd.S_drewN | apply Kd.S_drew)); exact HO_3.out) hb); have n1_ := Aside0.mk (Kd.R_below (sqR HO212.out) hb); have n2_ := Aside0.mk (below_step sqB hb); clear HO_3; clear HO212; clear HB; have HO_3 := n0_; have HO212 := n1_; have HB := n2_; clear n0_ n1_ n2_; (try clear hb); (try clear hb2); (try clear hk); (try clear hi))))
     go_meet
     case rel => exact ⟨_, (true), sqE, H', ⟨by have := HK1.out; first | omega | exact Nat.le_refl _⟩, ⟨by (with_reducible repeat (first | apply Kd.S_alloc | apply Kd.S_drewN | apply Kd.S_drew)); exact Kd.S_mono HO_3.out (fun _ hk => hk.2)⟩, ⟨sqR HO212.out⟩, ⟨sqB⟩⟩
    subst c14
    have H1 : ((endonymref3_Join.f k1 l0).bind fun t214 => ((endonymref3_Same.f k1 t210 t214).bind fun t217 => (endonymlaw3_ScalarJoins.j1 k1 l0 x3_1 t210 (!t217)))) = some r := by rw [if_pos rfl] at H; exact H
    clear H
    have H := H1
    clear H1
    obtain ⟨t214, A15, H⟩ := sqO H
    try dsimp only at H
    obtain ⟨t217, A16, H⟩ := sqO H
    try dsimp only at H
    have H' := Aside0.mk H
    clear H
    go_wp2_with (first | (go_at_call 13; (with_reducible refine (endonymlaw3_told.calls k1  true _ A13.out).mono ?_); rintro e w17 ⟨rfl, hb⟩; have n0_ := Aside0.mk (Kd.S_below (by (with_reducible repeat (first | apply Kd.S_alloc | apply Kd.S_drewN | apply Kd.S_drew)); exact HO_3.out) hb); have n1_ := Aside0.mk (Kd.R_below (sqR HO212.out) hb); have n2_ := Aside0.mk (below_step sqB hb); clear HO_3; clear HO212; clear HB; have HO_3 := n0_; have HO212 := n1_; have HB := n2_; clear n0_ n1_ n2_; (try clear hb); (try clear hb2); (try clear hk); (try clear hi)) | (go_at_call 22; (with_reducible refine (endonymref3_Join.calls k1 _ _ l0 t214 _ ?side1 ?side2 A15.out).mono ?_); (case side1 => repeat (first | exact (Kd.C_below HR0.out HB.out) | (with_reducible refine Kd.C_alloc ?_ _) | (with_reducible refine Kd.C_drewN ?_ _) | (with_reducible refine Kd.C_drew ?_))); (case side2 => exact HC0.out); rintro e w18 ⟨v215, rfl, ho0, hb⟩; have n0_ := Aside0.mk (Kd.S_elder' (by (with_reducible repeat (first | apply Kd.S_alloc | apply Kd.S_drewN | apply Kd.S_drew)); exact HO_3.out) (Kd.R_base ho0) hb); have n1_ := Aside0.mk (Kd.R_elder' (sqR HO212.out) (Kd.R_base ho0) hb); have n2_ := Aside0.mk (Kd.R_lower (Kd.R_new' ho0 (Kd.R_lt (sqR HO212.out))) (below_size sqB)); have n3_ := Aside0.mk (below_step sqB hb); clear HO_3; clear HO212; clear HB; have HO_3 := n0_; have HO212 := n1_; have HO216 := n2_; have HB := n3_; clear n0_ n1_ n2_ n3_; (try clear hb); (try clear hb2); (try clear hk); (try clear hi); (try clear ho0); obtain ⟨Ao19, co19, eo19⟩ := Kd.R_slice HO212.out; subst eo19; obtain ⟨Ao20, co20, eo20⟩ := Kd.R_slice HO216.out; subst eo20) | (go_at_call 14; (with_reducible refine (endonymref3_Same.calls k1 _ _ t210 _ _ t214 t217 _ ?side1 ?side2 ?side3 ?side4 A16.out).mono ?_); (case side1 => repeat (first | exact (Kd.R_reads' HO212.out).2.2 | (with_reducible refine Kd.C_alloc ?_ _) | (with_reducible refine Kd.C_drewN ?_ _) | (with_reducible refine Kd.C_drew ?_))); (case side2 => exact (Kd.R_reads' HO212.out).2.1); (case side3 => repeat (first | exact (Kd.R_reads' HO216.out).2.2 | (with_reducible refine Kd.C_alloc ?_ _) | (with_reducible refine Kd.C_drewN ?_ _) | (with_reducible refine Kd.C_drew ?_))); (case side4 => exact (Kd.R_reads' HO216.out).2.1); rintro e w' ⟨rfl, ⟨nd, rfl⟩⟩; (try first | exact ⟨rfl, _, World.drewN_drewN _ _ _⟩ | exact ⟨rfl, _, Eq.trans (World.drewN_drewN _ _ _) (congrArg (World.drewN _) (Nat.add_assoc _ _ _))⟩)))
    repeat (go_quiet (first | (go_at_call 13; (with_reducible refine (endonymlaw3_told.calls k1  true _ A13.out).mono ?_); rintro e w17 ⟨rfl, hb⟩; have n0_ := Aside0.mk (Kd.S_below (by (with_reducible repeat (first | apply Kd.S_alloc | apply Kd.S_drewN | apply Kd.S_drew)); exact HO_3.out) hb); have n1_ := Aside0.mk (Kd.R_below (sqR HO212.out) hb); have n2_ := Aside0.mk (below_step sqB hb); clear HO_3; clear HO212; clear HB; have HO_3 := n0_; have HO212 := n1_; have HB := n2_; clear n0_ n1_ n2_; (try clear hb); (try clear hb2); (try clear hk); (try clear hi)) | (go_at_call 22; (with_reducible refine (endonymref3_Join.calls k1 _ _ l0 t214 _ ?side1 ?side2 A15.out).mono ?_); (case side1 => repeat (first | exact (Kd.C_below HR0.out HB.out) | (with_reducible refine Kd.C_alloc ?_ _) | (with_reducible refine Kd.C_drewN ?_ _) | (with_reducible refine Kd.C_drew ?_))); (case side2 => exact HC0.out); rintro e w18 ⟨v215, rfl, ho0, hb⟩; have n0_ := Aside0.mk (Kd.S_elder' (by (with_reducible repeat (first | apply Kd.S_alloc | apply Kd.S_drewN | apply Kd.S_drew)); exact HO_3.out) (Kd.R_base ho0) hb); have n1_ := Aside0.mk (Kd.R_elder' (sqR HO212.out) (Kd.R_base ho0) hb); have n2_ := Aside0.mk (Kd.R_lower (Kd.R_new' ho0 (Kd.R_lt (sqR HO212.out))) (below_size sqB)); have n3_ := Aside0.mk (below_step sqB hb); clear HO_3; clear HO212; clear HB; have HO_3 := n0_; have HO212 := n1_; have HO216 := n2_; have HB := n3_; clear n0_ n1_ n2_ n3_; (try clear hb); (try clear hb2); (try clear hk); (try clear hi); (try clear ho0); obtain ⟨Ao19, co19, eo19⟩ := Kd.R_slice HO212.out; subst eo19; obtain ⟨Ao20, co20, eo20⟩ := Kd.R_slice HO216.out; subst eo20) | (go_at_call 14; (with_reducible refine (endonymref3_Same.calls k1 _ _ t210 _ _ t214 t217 _ ?side1 ?side2 ?side3 ?side4 A16.out).mono ?_); (case side1 => repeat (first | exact (Kd.R_reads' HO212.out).2.2 | (with_reducible refine Kd.C_alloc ?_ _) | (with_reducible refine Kd.C_drewN ?_ _) | (with_reducible refine Kd.C_drew ?_))); (case side2 => exact (Kd.R_reads' HO212.out).2.1); (case side3 => repeat (first | exact (Kd.R_reads' HO216.out).2.2 | (with_reducible refine Kd.C_alloc ?_ _) | (with_reducible refine Kd.C_drewN ?_ _) | (with_reducible refine Kd.C_drew ?_))); (case side4 => exact (Kd.R_reads' HO216.out).2.1); rintro e w' ⟨rfl, ⟨nd, rfl⟩⟩; (try first | exact ⟨rfl, _, World.drewN_drewN _ _ _⟩ | exact ⟨rfl, _, Eq.trans (World.drewN_drewN _ _ _) (congrArg (World.drewN _) (Nat.add_assoc _ _ _))⟩))); try go_wp2_with (first | (go_at_call 13; (with_reducible refine (endonymlaw3_told.calls k1  true _ A13.out).mono ?_); rintro e w17 ⟨rfl, hb⟩; have n0_ := Aside0.mk (Kd.S_below (by (with_reducible repeat (first | apply Kd.S_alloc | apply Kd.S_drewN | apply Kd.S_drew)); exact HO_3.out) hb); have n1_ := Aside0.mk (Kd.R_below (sqR HO212.out) hb); have n2_ := Aside0.mk (below_step sqB hb); clear HO_3; clear HO212; clear HB; have HO_3 := n0_; have HO212 := n1_; have HB := n2_; clear n0_ n1_ n2_; (try clear hb); (try clear hb2); (try clear hk); (try clear hi)) | (go_at_call 22; (with_reducible refine (endonymref3_Join.calls k1 _ _ l0 t214 _ ?side1 ?side2 A15.out).mono ?_); (case side1 => repeat (first | exact (Kd.C_below HR0.out HB.out) | (with_reducible refine Kd.C_alloc ?_ _) | (with_reducible refine Kd.C_drewN ?_ _) | (with_reducible refine Kd.C_drew ?_))); (case side2 => exact HC0.out); rintro e w18 ⟨v215, rfl, ho0, hb⟩; have n0_ := Aside0.mk (Kd.S_elder' (by (with_reducible repeat (first | apply Kd.S_alloc | apply Kd.S_drewN | apply Kd.S_drew)); exact HO_3.out) (Kd.R_base ho0) hb); have n1_ := Aside0.mk (Kd.R_elder' (sqR HO212.out) (Kd.R_base ho0) hb); have n2_ := Aside0.mk (Kd.R_lower (Kd.R_new' ho0 (Kd.R_lt (sqR HO212.out))) (below_size sqB)); have n3_ := Aside0.mk (below_step sqB hb); clear HO_3; clear HO212; clear HB; have HO_3 := n0_; have HO212 := n1_; have HO216 := n2_; have HB := n3_; clear n0_ n1_ n2_ n3_; (try clear hb); (try clear hb2); (try clear hk); (try clear hi); (try clear ho0); obtain ⟨Ao19, co19, eo19⟩ := Kd.R_slice HO212.out; subst eo19; obtain ⟨Ao20, co20, eo20⟩ := Kd.R_slice HO216.out; subst eo20) | (go_at_call 14; (with_reducible refine (endonymref3_Same.calls k1 _ _ t210 _ _ t214 t217 _ ?side1 ?side2 ?side3 ?side4 A16.out).mono ?_); (case side1 => repeat (first | exact (Kd.R_reads' HO212.out).2.2 | (with_reducible refine Kd.C_alloc ?_ _) | (with_reducible refine Kd.C_drewN ?_ _) | (with_reducible refine Kd.C_drew ?_))); (case side2 => exact (Kd.R_reads' HO212.out).2.1); (case side3 => repeat (first | exact (Kd.R_reads' HO216.out).2.2 | (with_reducible refine Kd.C_alloc ?_ _) | (with_reducible refine Kd.C_drewN ?_ _) | (with_reducible refine Kd.C_drew ?_))); (case side4 => exact (Kd.R_reads' HO216.out).2.1); rintro e w' ⟨rfl, ⟨nd, rfl⟩⟩; (try first | exact ⟨rfl, _, World.drewN_drewN _ _ _⟩ | exact ⟨rfl, _, Eq.trans (World.drewN_drewN _ _ _) (congrArg (World.drewN _) (Nat.add_assoc _ _ _))⟩))))
    go_meet
    case rel => exact ⟨_, (!t217), sqE, H', ⟨by have := HK1.out; first | omega | exact Nat.le_refl _⟩, ⟨by (with_reducible repeat (first | apply Kd.S_alloc | apply Kd.S_drewN | apply Kd.S_drew)); exact Kd.S_mono HO_3.out (fun _ hk => hk.1.2)⟩, ⟨by (with_reducible repeat (first | apply Kd.R_alloc | apply Kd.R_drewN | apply Kd.R_drew)); exact Kd.R_mono HO212.out (fun _ hk => trivial)⟩, ⟨sqB⟩⟩
   case rest =>
    clear HC10
    try clear c1
    try clear c2
    try clear c2b0
    try clear p2
    try clear q2
    try clear hx2
    try clear c3
    try clear c3b0
    try clear c5
    try clear p6
    try clear c8
    try clear c14
    try clear c20
    try clear p20
    try clear q20
    try clear hx20
    try clear hx203_0
    try clear p203
    try clear q203
    obtain ⟨kq, x32_9, rfl, HA, HJ9, HO_3, HO_5, HB⟩ := hcut
    cases kq with
    | zero => exact absurd HA.out (by simp [endonymlaw3_ScalarJoins.j1])
    | succ kj9 =>
     have H := HA.out
     clear HA
     simp only [endonymlaw3_ScalarJoins.j1] at H
     by_cases c22 : x32_9 = true
     ·subst c22
      have H1 : (some false) = some r := by rw [if_pos rfl] at H; exact H
      clear H
      have H := H1
      clear H1
      obtain rfl := Option.some.inj H
      go_wp2
      repeat (go_quiet (fail); try go_wp2)
      go_ret
      exact ⟨sqE', sqB⟩
     replace c22 := Bool.eq_false_iff.mpr c22
     subst c22
     have H1 : (endonymlaw3_ScalarJoins.l1 kj9 l0 x3_1 t210 0) = some r := by rw [if_neg (show ¬ (false = true) by decide)] at H; exact H
     clear H
     have H := H1
     clear H1
     have H' := Aside0.mk H
     clear H
     go_wp2
     repeat (go_quiet (fail); try go_wp2)
     go_loopg [6] kj9 (fun kq v6 w' => ∃ (x5_3 : List Int) (x6_3 : Int), v6 = .int .i64 x6_3 ∧ Aside0 (endonymlaw3_ScalarJoins.l1 kq l0 x3_1 x5_3 x6_3 = some r) ∧ Aside0 (kq ≤ kj9) ∧ Aside0 (Kd.S (Rm.slack 21 (Kd.int .i32) [.int .i32 (-7), .int .i32 (-8)]) 22 w' w.heap.size (fun k_ => some k_ ≠ (v211 : Value).ownBlock) (.slice Ao11 x3_1.length co11) x3_1) ∧ Aside0 (Kd.R (Kd.int .i32) 21 w' w.heap.size (fun _ => True) v211 x5_3) ∧ Aside0 (Below w.heap.size w w'))
     case atStart => exact ⟨(t210), (0), sqE, H', ⟨Nat.le_refl _⟩, ⟨by (with_reducible repeat (first | apply Kd.S_alloc | apply Kd.S_drewN | apply Kd.S_drew)); exact HO_3.out⟩, ⟨sqR HO_5.out⟩, ⟨sqB⟩⟩
     case round =>
      clear H'
      try clear c1
      try clear c2
      try clear c2b0
      try clear p2
      try clear q2
      try clear hx2
      try clear c3
      try clear c3b0
      try clear c5
      try clear p6
      try clear c8
      try clear c14
      try clear c20
      try clear p20
      try clear q20
      try clear hx20
      try clear c22
      try clear hx203_0
      try clear p2
      try clear p20
      try clear p203
      try clear p6
      try clear q2
      try clear q20
      try clear q203
      obtain ⟨x5_3, x6_3, rfl, HA, HK3, HO_3, HO_5, HB⟩ := hrel
      cases gk with
      | zero => exact absurd HA.out (by simp [endonymlaw3_ScalarJoins.l1])
      | succ k3 =>
       have H := HA.out
       clear HA
       simp only [endonymlaw3_ScalarJoins.l1] at H
       by_cases c23 : x6_3 < (x5_3.length : Int)
       ·rw [if_pos c23] at H
        have c23b0 := decide_eq_true c23
        clear c23
        by_cases c24 : 0 ≤ x6_3
        case neg => rw [if_neg c24] at H; exact absurd H (by simp)
        rw [if_pos c24] at H
        have c24b0 := decide_eq_true c24
        clear c24
        obtain ⟨y218, hy218⟩ : ∃ y_ : List Int, y_ = (x5_3.set (x6_3 : Int).toNat (-9)) := ⟨_, rfl⟩
        replace H : (endonymlaw3_ScalarJoins.l1 k3 l0 x3_1 y218 (wrap64 (x6_3 + 1))) = some r := by first | (rw [hy218]; with_reducible exact H) | (have H2_ := (Option.bind_some _ _).symm.trans H; rw [hy218]; with_reducible exact H2_) | (have H2_ := (Option.bind_some _ _).symm.trans H; with_reducible exact H2_) | with_reducible exact H | (rw [hy218]; exact H) | exact H
        have Ny218 := Aside0.mk hy218
        clear hy218
        have H' := Aside0.mk H
        clear H
        obtain ⟨Ao26, co26, eo26⟩ := Kd.R_slice HO_5.out
        subst eo26
        have p25 : 0 ≤ (x6_3 : Int) := sqD
        have q25 : (x6_3 : Int) < ((x5_3.length : Int) : Int) := sqD
        obtain ⟨go25, co25, eo25, gb25, gl25, cl25, HG25⟩ := Kd.R_form HO_5.out (by omega)
        (first | cases eo25 | (injection eo25 with ea_ en_ ec_; (first | subst ea_ | (injection ea_ with ea_; subst ea_)); subst ec_; clear en_))
        have GB25 := Aside0.mk gb25
        have GG25 := Aside0.mk HG25
        clear gb25 gl25 HG25
        obtain ⟨hx25_0, hf25_0⟩ := Kd.R_celln 0 HO_5.out (x6_3 : Int) p25 q25
        replace p25 := eq_true p25
        replace q25 := eq_true q25
        have HP27 := Kd.R_putg HO_5.out (x6_3 : Int) (-9)
        go_wp2_with (first | ((with_reducible refine gate_store (t := 21) (p := 41) rfl ?_); (try (rw [drewN_self wr]; generalize hq_ : World.drewN wr _ = wr; have n0_ := Aside0.mk (Kd.S_at hq_ HO_3.out); have n1_ := Aside0.mk (Kd.R_at hq_ HO_5.out); have n2_ := Aside0.mk (below_at hq_ HB.out); clear hq_ HO_3 HO_5 HB; have HO_3 := n0_; have HO_5 := n1_; have HB := n2_; clear n0_ n1_ n2_; (try (have HP27 := Kd.R_putg HO_5.out (x6_3 : Int) (-9))))); refine store_event (t := 21) (p := 41) (v := ?vo_w28) (w1 := (wr.setCell ⟨go25, (x6_3 : Int).toNat, none⟩ (.int .i32 (-9)))) ?hg ?ho ?hn ?hr ?_; (case ho => rfl); (case hg => rfl); (case hn => rfl); (case hr => first | (go_simp; done) | (go_simp; rfl)); intro w28 hw; have hg : wr.grownBy w28 (some go25) := (by rw [hw]; exact HP27.2); have hp_ : Kd.R (Kd.int .i32) 21 w28 w.heap.size (fun _ => True) (.slice (some ⟨go25, 0, none⟩) x5_3.length co26) y218 := (by rw [hw, Ny218.out]; exact HP27.1); clear HP27; have n0_ := Aside0.mk (Kd.S_after (v := (.slice (some ⟨go25, 0, none⟩) x5_3.length co26)) (v1 := (.slice (some ⟨go25, 0, none⟩) x5_3.length co26)) (ok := (fun _ => True)) (by (with_reducible repeat (first | apply Kd.S_alloc | apply Kd.S_drewN | apply Kd.S_drew)); exact Kd.S_mono HO_3.out (fun _ hk => ⟨trivial, hk⟩)) hg (.inl rfl)); have n1_ := Aside0.mk (hp_); have n2_ := Aside0.mk ((by rw [hw]; exact below_set (HB.out) GB25.out : Below w.heap.size w w28)); clear HO_3; clear HO_5; clear HB; have HO_3 := n0_; have HO_5 := n1_; have HB := n2_; clear n0_ n1_ n2_; clear hg hw hp_))
        repeat (go_quiet (first | ((with_reducible refine gate_store (t := 21) (p := 41) rfl ?_); (try (rw [drewN_self wr]; generalize hq_ : World.drewN wr _ = wr; have n0_ := Aside0.mk (Kd.S_at hq_ HO_3.out); have n1_ := Aside0.mk (Kd.R_at hq_ HO_5.out); have n2_ := Aside0.mk (below_at hq_ HB.out); clear hq_ HO_3 HO_5 HB; have HO_3 := n0_; have HO_5 := n1_; have HB := n2_; clear n0_ n1_ n2_; (try (have HP27 := Kd.R_putg HO_5.out (x6_3 : Int) (-9))))); refine store_event (t := 21) (p := 41) (v := ?vo_w28) (w1 := (wr.setCell ⟨go25, (x6_3 : Int).toNat, none⟩ (.int .i32 (-9)))) ?hg ?ho ?hn ?hr ?_; (case ho => rfl); (case hg => rfl); (case hn => rfl); (case hr => first | (go_simp; done) | (go_simp; rfl)); intro w28 hw; have hg : wr.grownBy w28 (some go25) := (by rw [hw]; exact HP27.2); have hp_ : Kd.R (Kd.int .i32) 21 w28 w.heap.size (fun _ => True) (.slice (some ⟨go25, 0, none⟩) x5_3.length co26) y218 := (by rw [hw, Ny218.out]; exact HP27.1); clear HP27; have n0_ := Aside0.mk (Kd.S_after (v := (.slice (some ⟨go25, 0, none⟩) x5_3.length co26)) (v1 := (.slice (some ⟨go25, 0, none⟩) x5_3.length co26)) (ok := (fun _ => True)) (by (with_reducible repeat (first | apply Kd.S_alloc | apply Kd.S_drewN | apply Kd.S_drew)); exact Kd.S_mono HO_3.out (fun _ hk => ⟨trivial, hk⟩)) hg (.inl rfl)); have n1_ := Aside0.mk (hp_); have n2_ := Aside0.mk ((by rw [hw]; exact below_set (HB.out) GB25.out : Below w.heap.size w w28)); clear HO_3; clear HO_5; clear HB; have HO_3 := n0_; have HO_5 := n1_; have HB := n2_; clear n0_ n1_ n2_; clear hg hw hp_)); try go_wp2_with (first | ((with_reducible refine gate_store (t := 21) (p := 41) rfl ?_); (try (rw [drewN_self wr]; generalize hq_ : World.drewN wr _ = wr; have n0_ := Aside0.mk (Kd.S_at hq_ HO_3.out); have n1_ := Aside0.mk (Kd.R_at hq_ HO_5.out); have n2_ := Aside0.mk (below_at hq_ HB.out); clear hq_ HO_3 HO_5 HB; have HO_3 := n0_; have HO_5 := n1_; have HB := n2_; clear n0_ n1_ n2_; (try (have HP27 := Kd.R_putg HO_5.out (x6_3 : Int) (-9))))); refine store_event (t := 21) (p := 41) (v := ?vo_w28) (w1 := (wr.setCell ⟨go25, (x6_3 : Int).toNat, none⟩ (.int .i32 (-9)))) ?hg ?ho ?hn ?hr ?_; (case ho => rfl); (case hg => rfl); (case hn => rfl); (case hr => first | (go_simp; done) | (go_simp; rfl)); intro w28 hw; have hg : wr.grownBy w28 (some go25) := (by rw [hw]; exact HP27.2); have hp_ : Kd.R (Kd.int .i32) 21 w28 w.heap.size (fun _ => True) (.slice (some ⟨go25, 0, none⟩) x5_3.length co26) y218 := (by rw [hw, Ny218.out]; exact HP27.1); clear HP27; have n0_ := Aside0.mk (Kd.S_after (v := (.slice (some ⟨go25, 0, none⟩) x5_3.length co26)) (v1 := (.slice (some ⟨go25, 0, none⟩) x5_3.length co26)) (ok := (fun _ => True)) (by (with_reducible repeat (first | apply Kd.S_alloc | apply Kd.S_drewN | apply Kd.S_drew)); exact Kd.S_mono HO_3.out (fun _ hk => ⟨trivial, hk⟩)) hg (.inl rfl)); have n1_ := Aside0.mk (hp_); have n2_ := Aside0.mk ((by rw [hw]; exact below_set (HB.out) GB25.out : Below w.heap.size w w28)); clear HO_3; clear HO_5; clear HB; have HO_3 := n0_; have HO_5 := n1_; have HB := n2_; clear n0_ n1_ n2_; clear hg hw hp_)))
        go_roundg k3
        case measure => have := HK1.out; have := HJ9.out; have := HK3.out; omega
        case rel => exact ⟨(y218), (wrap64 (x6_3 + 1)), sqE, H', ⟨by have := HK1.out; have := HJ9.out; have := HK3.out; omega⟩, ⟨by (with_reducible repeat (first | apply Kd.S_alloc | apply Kd.S_drewN | apply Kd.S_drew)); exact Kd.S_mono HO_3.out (fun _ hk => hk.2)⟩, ⟨sqR HO_5.out⟩, ⟨sqB⟩⟩
       rw [if_neg c23] at H
       have c23b0 := decide_eq_false c23
       clear c23
       have H' := Aside0.mk H
       clear H
       obtain ⟨Ao29, co29, eo29⟩ := Kd.R_slice HO_5.out
       subst eo29
       go_wp2
       repeat (go_quiet (fail); try go_wp2)
       go_loopg [7] k3 (fun kq v7 w' => ∃ (x7_4 : Int), v7 = .int .i64 x7_4 ∧ Aside0 (endonymlaw3_ScalarJoins.l2 kq l0 x3_1 x7_4 = some r) ∧ Aside0 (kq ≤ k3) ∧ Aside0 (Kd.S (Rm.slack 21 (Kd.int .i32) [.int .i32 (-7), .int .i32 (-8)]) 22 w' w.heap.size (fun _ => True) (.slice Ao11 x3_1.length co11) x3_1) ∧ Aside0 (Below w.heap.size w w'))
       case atStart => exact ⟨(0), sqE, H', ⟨Nat.le_refl _⟩, ⟨by (with_reducible repeat (first | apply Kd.S_alloc | apply Kd.S_drewN | apply Kd.S_drew)); exact Kd.S_mono HO_3.out (fun _ hk => trivial)⟩, ⟨sqB⟩⟩
       case round =>
        clear H'
        try clear c1
        try clear c2
        try clear c2b0
        try clear p2
        try clear q2
        try clear hx2
        try clear hf2
        try clear c3
        try clear c3b0
        try clear c5
        try clear p6
        try clear c8
        try clear c14
        try clear c20
        try clear p20
        try clear q20
        try clear hx20
        try clear c22
        try clear c23
        try clear c23b0
        try clear c24
        try clear c24b0
        try clear p25
        try clear q25
        try clear hx25
        try clear hf25
        try clear hx203_0
        try clear hx25_0
        try clear p2
        try clear p20
        try clear p203
        try clear p25
        try clear p6
        try clear q2
        try clear q20
        try clear q203
        try clear q25
        obtain ⟨x7_4, rfl, HA, HK4, HO_3, HB⟩ := hrel
        cases gk with
        | zero => exact absurd HA.out (by simp [endonymlaw3_ScalarJoins.l2])
        | succ k4 =>
         have H := HA.out
         clear HA
         simp only [endonymlaw3_ScalarJoins.l2] at H
         by_cases c30 : x7_4 < (l0.length : Int)
         case neg =>
          rw [if_neg c30] at H
          have c30b0 := decide_eq_false c30
          clear c30
          obtain rfl := Option.some.inj H
          go_wp2
          repeat (go_quiet (fail); try go_wp2)
          go_ret
          exact ⟨sqE', sqB⟩
         rw [if_pos c30] at H
         have c30b0 := decide_eq_true c30
         clear c30
         by_cases c31 : 0 ≤ x7_4
         case neg => rw [if_neg c31] at H; exact absurd H (by simp)
         rw [if_pos c31] at H
         have c31b0 := decide_eq_true c31
         clear c31
         by_cases c32 : x7_4 < (x3_1.length : Int)
         case neg => rw [if_neg c32] at H; exact absurd H (by simp)
         rw [if_pos c32] at H
         have c32b0 := decide_eq_true c32
         clear c32
         obtain ⟨t221, A33, H⟩ := sqO H
         try dsimp only at H
         by_cases c34 : t221 = true
         ·subst c34
          have H1 : (endonymlaw3_ScalarJoins.l2 k4 l0 x3_1 (wrap64 (x7_4 + 1))) = some r := by rw [if_pos rfl] at H; exact H
          clear H
          have H := H1
          clear H1
          have H' := Aside0.mk H
          clear H
          have p219 : 0 ≤ (x7_4 : Int) := sqD
          have q219 : x7_4 < (x3_1.length : Int) := sqD
          obtain ⟨ad219, A219_0, c219_0, e219, hx219_0, hl219_0, hi219_0, hm_⟩ := slack_L1 (Kd.S_reads' HO_3.out).2.2 x7_4 p219 q219
          have HRm := Aside0.mk hm_
          clear hm_
          cases e219
          obtain ⟨ce219, hce219, hMe219, hcc219⟩ := Kd.S_get HO_3.out [] x7_4 p219 (by first | exact q219 | exact sqD | (have e_ := (Kd.S_reads' HO_3.out).1; omega))
          obtain ⟨ve219_0, rfl, ge219_0, _⟩ := hMe219
          have hv219_0 := hcc219 0 _ rfl
          rw [Nat.add_zero, show (Rm.slack 21 (Kd.int .i32) [.int .i32 (-7), .int .i32 (-8)]).sz = 1 from rfl, Nat.mul_one] at hv219_0
          replace hv219_0 := Option.some.inj (hv219_0.symm.trans hx219_0)
          rw [hv219_0] at ge219_0
          have HL219_0 := Aside0.mk (show Kd.R (Kd.int .i32) 21 _ _ _ _ (rd_L1 x3_1 x7_4) from ge219_0)
          clear hv219_0 ge219_0
          clear hcc219 hce219
          have HR219_0 := Aside0.mk hi219_0
          have HC219_0 := Aside0.mk hl219_0
          clear hi219_0 hl219_0
          replace p219 := eq_true p219
          replace q219 := eq_true q219
          have p220 : 0 ≤ (x7_4 : Int) := sqD
          have q220 : x7_4 < (l0.length : Int) := sqD
          obtain ⟨ad220, A220_0, c220_0, e220, hx220_0, hl220_0, hi220_0⟩ := at_L1 HR0.out x7_4 p220 q220
          cases e220
          replace hx220_0 := (HB.out.cell (World.block_lt_of_cell? w _ hx220_0)).trans hx220_0
          have HR220_0 := Aside0.mk hi220_0
          have HC220_0 := Aside0.mk hl220_0
          clear hi220_0 hl220_0
          replace p220 := eq_true p220
          replace q220 := eq_true q220
          go_wp2_with (first | (go_at_call 19; (with_reducible refine (endonymlaw3_whole.calls k4 _ _ (rd_L1 x3_1 x7_4) _ _ (rd_L1 l0 x7_4) true _ ?side1 ?side2 ?side3 ?side4 (by (with_reducible repeat (first | apply Rm.Room.alloc | apply Rm.Room.drewN | apply Rm.Room.drew)); exact HRm.out) A33.out).mono ?_); (case side1 => repeat (first | exact (by repeat (first | (with_reducible exact HR219_0.out) | (with_reducible refine Kd.C_alloc ?_ _) | (with_reducible refine Kd.C_drewN ?_ _) | (with_reducible refine Kd.C_drew ?_) | exact HR219_0.out)) | (with_reducible refine Kd.C_alloc ?_ _) | (with_reducible refine Kd.C_drewN ?_ _) | (with_reducible refine Kd.C_drew ?_))); (case side2 => exact HC219_0.out); (case side3 => repeat (first | exact (Kd.C_below HR220_0.out HB.out) | (with_reducible refine Kd.C_alloc ?_ _) | (with_reducible refine Kd.C_drewN ?_ _) | (with_reducible refine Kd.C_drew ?_))); (case side4 => exact HC220_0.out); rintro e w' ⟨rfl, ⟨nd, rfl⟩⟩; (try first | exact ⟨rfl, _, World.drewN_drewN _ _ _⟩ | exact ⟨rfl, _, Eq.trans (World.drewN_drewN _ _ _) (congrArg (World.drewN _) (Nat.add_assoc _ _ _))⟩)))
          repeat (go_quiet (first | (go_at_call 19; (with_reducible refine (endonymlaw3_whole.calls k4 _ _ (rd_L1 x3_1 x7_4) _ _ (rd_L1 l0 x7_4) true _ ?side1 ?side2 ?side3 ?side4 (by (with_reducible repeat (first | apply Rm.Room.alloc | apply Rm.Room.drewN | apply Rm.Room.drew)); exact HRm.out) A33.out).mono ?_); (case side1 => repeat (first | exact (by repeat (first | (with_reducible exact HR219_0.out) | (with_reducible refine Kd.C_alloc ?_ _) | (with_reducible refine Kd.C_drewN ?_ _) | (with_reducible refine Kd.C_drew ?_) | exact HR219_0.out)) | (with_reducible refine Kd.C_alloc ?_ _) | (with_reducible refine Kd.C_drewN ?_ _) | (with_reducible refine Kd.C_drew ?_))); (case side2 => exact HC219_0.out); (case side3 => repeat (first | exact (Kd.C_below HR220_0.out HB.out) | (with_reducible refine Kd.C_alloc ?_ _) | (with_reducible refine Kd.C_drewN ?_ _) | (with_reducible refine Kd.C_drew ?_))); (case side4 => exact HC220_0.out); rintro e w' ⟨rfl, ⟨nd, rfl⟩⟩; (try first | exact ⟨rfl, _, World.drewN_drewN _ _ _⟩ | exact ⟨rfl, _, Eq.trans (World.drewN_drewN _ _ _) (congrArg (World.drewN _) (Nat.add_assoc _ _ _))⟩))); try go_wp2_with (first | (go_at_call 19; (with_reducible refine (endonymlaw3_whole.calls k4 _ _ (rd_L1 x3_1 x7_4) _ _ (rd_L1 l0 x7_4) true _ ?side1 ?side2 ?side3 ?side4 (by (with_reducible repeat (first | apply Rm.Room.alloc | apply Rm.Room.drewN | apply Rm.Room.drew)); exact HRm.out) A33.out).mono ?_); (case side1 => repeat (first | exact (by repeat (first | (with_reducible exact HR219_0.out) | (with_reducible refine Kd.C_alloc ?_ _) | (with_reducible refine Kd.C_drewN ?_ _) | (with_reducible refine Kd.C_drew ?_) | exact HR219_0.out)) | (with_reducible refine Kd.C_alloc ?_ _) | (with_reducible refine Kd.C_drewN ?_ _) | (with_reducible refine Kd.C_drew ?_))); (case side2 => exact HC219_0.out); (case side3 => repeat (first | exact (Kd.C_below HR220_0.out HB.out) | (with_reducible refine Kd.C_alloc ?_ _) | (with_reducible refine Kd.C_drewN ?_ _) | (with_reducible refine Kd.C_drew ?_))); (case side4 => exact HC220_0.out); rintro e w' ⟨rfl, ⟨nd, rfl⟩⟩; (try first | exact ⟨rfl, _, World.drewN_drewN _ _ _⟩ | exact ⟨rfl, _, Eq.trans (World.drewN_drewN _ _ _) (congrArg (World.drewN _) (Nat.add_assoc _ _ _))⟩))))
          go_roundg k4
          case measure => have := HK1.out; have := HJ9.out; have := HK3.out; have := HK4.out; omega
          case rel => exact ⟨(wrap64 (x7_4 + 1)), sqE, H', ⟨by have := HK1.out; have := HJ9.out; have := HK3.out; have := HK4.out; omega⟩, ⟨by (with_reducible repeat (first | apply Kd.S_alloc | apply Kd.S_drewN | apply Kd.S_drew)); exact HO_3.out⟩, ⟨sqB⟩⟩
         replace c34 := Bool.eq_false_iff.mpr c34
         subst c34
         have H1 : (some false) = some r := by rw [if_neg (show ¬ (false = true) by decide)] at H; exact H
         clear H
         have H := H1
         clear H1
         obtain rfl := Option.some.inj H
         have p219 : 0 ≤ (x7_4 : Int) := sqD
         have q219 : x7_4 < (x3_1.length : Int) := sqD
         obtain ⟨ad219, A219_0, c219_0, e219, hx219_0, hl219_0, hi219_0, hm_⟩ := slack_L1 (Kd.S_reads' HO_3.out).2.2 x7_4 p219 q219
         have HRm := Aside0.mk hm_
         clear hm_
         cases e219
         obtain ⟨ce219, hce219, hMe219, hcc219⟩ := Kd.S_get HO_3.out [] x7_4 p219 (by first | exact q219 | exact sqD | (have e_ := (Kd.S_reads' HO_3.out).1; omega))
         obtain ⟨ve219_0, rfl, ge219_0, _⟩ := hMe219
         have hv219_0 := hcc219 0 _ rfl
         rw [Nat.add_zero, show (Rm.slack 21 (Kd.int .i32) [.int .i32 (-7), .int .i32 (-8)]).sz = 1 from rfl, Nat.mul_one] at hv219_0
         replace hv219_0 := Option.some.inj (hv219_0.symm.trans hx219_0)
         rw [hv219_0] at ge219_0
         have HL219_0 := Aside0.mk (show Kd.R (Kd.int .i32) 21 _ _ _ _ (rd_L1 x3_1 x7_4) from ge219_0)
         clear hv219_0 ge219_0
         clear hcc219 hce219
         have HR219_0 := Aside0.mk hi219_0
         have HC219_0 := Aside0.mk hl219_0
         clear hi219_0 hl219_0
         replace p219 := eq_true p219
         replace q219 := eq_true q219
         have p220 : 0 ≤ (x7_4 : Int) := sqD
         have q220 : x7_4 < (l0.length : Int) := sqD
         obtain ⟨ad220, A220_0, c220_0, e220, hx220_0, hl220_0, hi220_0⟩ := at_L1 HR0.out x7_4 p220 q220
         cases e220
         replace hx220_0 := (HB.out.cell (World.block_lt_of_cell? w _ hx220_0)).trans hx220_0
         have HR220_0 := Aside0.mk hi220_0
         have HC220_0 := Aside0.mk hl220_0
         clear hi220_0 hl220_0
         replace p220 := eq_true p220
         replace q220 := eq_true q220
         go_wp2_with (first | (go_at_call 19; (with_reducible refine (endonymlaw3_whole.calls k4 _ _ (rd_L1 x3_1 x7_4) _ _ (rd_L1 l0 x7_4) false _ ?side1 ?side2 ?side3 ?side4 (by (with_reducible repeat (first | apply Rm.Room.alloc | apply Rm.Room.drewN | apply Rm.Room.drew)); exact HRm.out) A33.out).mono ?_); (case side1 => repeat (first | exact (by repeat (first | (with_reducible exact HR219_0.out) | (with_reducible refine Kd.C_alloc ?_ _) | (with_reducible refine Kd.C_drewN ?_ _) | (with_reducible refine Kd.C_drew ?_) | exact HR219_0.out)) | (with_reducible refine Kd.C_alloc ?_ _) | (with_reducible refine Kd.C_drewN ?_ _) | (with_reducible refine Kd.C_drew ?_))); (case side2 => exact HC219_0.out); (case side3 => repeat (first | exact (Kd.C_below HR220_0.out HB.out) | (with_reducible refine Kd.C_alloc ?_ _) | (with_reducible refine Kd.C_drewN ?_ _) | (with_reducible refine Kd.C_drew ?_))); (case side4 => exact HC220_0.out); rintro e w' ⟨rfl, ⟨nd, rfl⟩⟩; (try first | exact ⟨rfl, _, World.drewN_drewN _ _ _⟩ | exact ⟨rfl, _, Eq.trans (World.drewN_drewN _ _ _) (congrArg (World.drewN _) (Nat.add_assoc _ _ _))⟩)))
         repeat (go_quiet (first | (go_at_call 19; (with_reducible refine (endonymlaw3_whole.calls k4 _ _ (rd_L1 x3_1 x7_4) _ _ (rd_L1 l0 x7_4) false _ ?side1 ?side2 ?side3 ?side4 (by (with_reducible repeat (first | apply Rm.Room.alloc | apply Rm.Room.drewN | apply Rm.Room.drew)); exact HRm.out) A33.out).mono ?_); (case side1 => repeat (first | exact (by repeat (first | (with_reducible exact HR219_0.out) | (with_reducible refine Kd.C_alloc ?_ _) | (with_reducible refine Kd.C_drewN ?_ _) | (with_reducible refine Kd.C_drew ?_) | exact HR219_0.out)) | (with_reducible refine Kd.C_alloc ?_ _) | (with_reducible refine Kd.C_drewN ?_ _) | (with_reducible refine Kd.C_drew ?_))); (case side2 => exact HC219_0.out); (case side3 => repeat (first | exact (Kd.C_below HR220_0.out HB.out) | (with_reducible refine Kd.C_alloc ?_ _) | (with_reducible refine Kd.C_drewN ?_ _) | (with_reducible refine Kd.C_drew ?_))); (case side4 => exact HC220_0.out); rintro e w' ⟨rfl, ⟨nd, rfl⟩⟩; (try first | exact ⟨rfl, _, World.drewN_drewN _ _ _⟩ | exact ⟨rfl, _, Eq.trans (World.drewN_drewN _ _ _) (congrArg (World.drewN _) (Nat.add_assoc _ _ _))⟩))); try go_wp2_with (first | (go_at_call 19; (with_reducible refine (endonymlaw3_whole.calls k4 _ _ (rd_L1 x3_1 x7_4) _ _ (rd_L1 l0 x7_4) false _ ?side1 ?side2 ?side3 ?side4 (by (with_reducible repeat (first | apply Rm.Room.alloc | apply Rm.Room.drewN | apply Rm.Room.drew)); exact HRm.out) A33.out).mono ?_); (case side1 => repeat (first | exact (by repeat (first | (with_reducible exact HR219_0.out) | (with_reducible refine Kd.C_alloc ?_ _) | (with_reducible refine Kd.C_drewN ?_ _) | (with_reducible refine Kd.C_drew ?_) | exact HR219_0.out)) | (with_reducible refine Kd.C_alloc ?_ _) | (with_reducible refine Kd.C_drewN ?_ _) | (with_reducible refine Kd.C_drew ?_))); (case side2 => exact HC219_0.out); (case side3 => repeat (first | exact (Kd.C_below HR220_0.out HB.out) | (with_reducible refine Kd.C_alloc ?_ _) | (with_reducible refine Kd.C_drewN ?_ _) | (with_reducible refine Kd.C_drew ?_))); (case side4 => exact HC220_0.out); rintro e w' ⟨rfl, ⟨nd, rfl⟩⟩; (try first | exact ⟨rfl, _, World.drewN_drewN _ _ _⟩ | exact ⟨rfl, _, Eq.trans (World.drewN_drewN _ _ _) (congrArg (World.drewN _) (Nat.add_assoc _ _ _))⟩))))
         go_ret
         exact ⟨sqE', sqB⟩
end Go.Proofs.Ytplnakmpogepmaa.A
