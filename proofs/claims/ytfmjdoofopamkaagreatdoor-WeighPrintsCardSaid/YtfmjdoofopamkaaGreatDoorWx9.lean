import Derived.Test.YtfmjdoofopamkaaGreatDoorWx0
import Derived.Test.YtfmjdoofopamkaaGreatDoorWx8
namespace Go.Proofs.YtfmjdoofopamkaaGreatDoor.W
open Go.RowKit Go.Proofs.YtfmjdoofopamkaaGreatDoorW.PrintWords Go.Proofs.YtfmjdoofopamkaaGreatDoorW.PrintLast Go.Proofs.YtfmjdoofopamkaaGreatDoorW.PrintMore
set_option maxHeartbeats 8000000
set_option maxRecDepth 100000
attribute [local go_sem] max2_int min2_int max_two min_two max_three min_three max_four min_four
set_option linter.unusedVariables false
set_option linter.unusedSimpArgs false
def r2_Less.l0 : Nat → List Int → List Int → List Int → Int → Int → Option (List Int)
 | 0, _, _, _, _, _ => none
 | k + 1, x0, x1, x5, x6, x7 => if x7 < (x0.length : Int) then (if x7 < (x1.length : Int) then (if 0 ≤ x7 then (if (rd x0 x7) ≥ ((x6 + (rd x1 x7)) % 4294967296) then (if x5.length < 35184372088832 then (r2_Less.l0 k x0 x1 (x5 ++ [((rd x0 x7) - ((x6 + (rd x1 x7)))) % 4294967296]) 0 (wrap64 (x7 + 1))) else (none)) else (if x5.length < 35184372088832 then (r2_Less.l0 k x0 x1 (x5 ++ [((((rd x0 x7) + 65536)) - ((x6 + (rd x1 x7)))) % 4294967296]) 1 (wrap64 (x7 + 1))) else (none))) else (none)) else (if 0 ≤ x7 then (if (rd x0 x7) ≥ x6 then (if x5.length < 35184372088832 then (r2_Less.l0 k x0 x1 (x5 ++ [((rd x0 x7) - x6) % 4294967296]) 0 (wrap64 (x7 + 1))) else (none)) else (if x5.length < 35184372088832 then (r2_Less.l0 k x0 x1 (x5 ++ [((((rd x0 x7) + 65536)) - x6) % 4294967296]) 1 (wrap64 (x7 + 1))) else (none))) else (none))) else ((r2_trim.f k x5).bind fun t267 => (some t267))
def r2_Less.f (k : Nat) (l0 : List Int) (l1 : List Int) : Option (List Int) := r2_Less.l0 k l0 l1 ([] : List Int) 0 0
theorem r2_Less.mono_l : ∀ k, (∀ y0 y1 y2 y3 y4, LeO (r2_Less.l0 k y0 y1 y2 y3 y4) (r2_Less.l0 (k + 1) y0 y1 y2 y3 y4))
 | 0 => fun _ _ _ _ _ r h => by simp [r2_Less.l0] at h
 | k + 1 => by
  have ih0 := r2_Less.mono_l k
  intro y0 y1 y2 y3 y4
  unfold r2_Less.l0
  repeat' first | (with_reducible first | apply ih0 | apply r2_trim.mono | apply LeO.refl | apply LeO.none | refine LeO.ite ?_ ?_ | refine LeO.bind ?_ (fun _ => ?_)) | apply LeO.none | refine LeO.ite ?_ ?_ | refine LeO.bind ?_ (fun _ => ?_)
theorem r2_Less.mono : ∀ a0 a1 k, LeO (r2_Less.f k a0 a1) (r2_Less.f (k + 1) a0 a1) := by
 intro a0 a1 k
 have ih0 := r2_Less.mono_l k
 unfold r2_Less.f
 repeat' first | (with_reducible first | apply ih0 | apply r2_trim.mono | apply LeO.refl | apply LeO.none | refine LeO.ite ?_ ?_ | refine LeO.bind ?_ (fun _ => ?_)) | apply LeO.none | refine LeO.ite ?_ ?_ | refine LeO.bind ?_ (fun _ => ?_)
theorem r2_Less.calls (k : Nat) (A0 : Option Addr) (c0 : Nat) (l0 : List Int) (A1 : Option Addr) (c1 : Nat) (l1 : List Int) (r : List Int) (w : World) (hr0 : Kd.C (Kd.int .u32) w A0 l0.length l0) (hc0 : l0.length ≤ c0) (hr1 : Kd.C (Kd.int .u32) w A1 l1.length l1) (hc1 : l1.length ≤ c1) (h : r2_Less.f k l0 l1 = some r) :
  Calls Tryz.prog 98 #[.slice A0 l0.length c0, .slice A1 l1.length c1] w fun e w' => ∃ v0_ : Value, e = .returned (v0_) ∧ Kd.R (Kd.int .u32) 83 w' w.heap.size (fun _ => True) v0_ r ∧ Below w.heap.size w w' := by
 have HR0 := Sd.mk hr0
 have HC0 := Sd.mk hc0
 clear hr0 hc0
 have HR1 := Sd.mk hr1
 have HC1 := Sd.mk hc1
 clear hr1 hc1
 have HB := Sd.mk (Below.refl w.heap.size w)
 have H : (r2_Less.l0 k l0 l1 ([] : List Int) 0 0) = some r := h
 clear h
 have H' := Sd.mk H
 clear H
 go_enter Tryz.func98, Tryz.ntmps98
 go_wp2
 go_loopg [5, 6, 7] k (fun kq v5 v6 v7 w' => ∃ (x5_1 : List Int) (x6_1 : Int) (x7_1 : Int), v6 = .int .u32 x6_1 ∧ v7 = .int .i64 x7_1 ∧ Sd (r2_Less.l0 kq l0 l1 x5_1 x6_1 x7_1 = some r) ∧ Sd (kq ≤ k) ∧ Sd (Kd.R (Kd.int .u32) 83 w' w.heap.size (fun _ => True) v5 x5_1) ∧ Sd (Below w.heap.size w w'))
 case atStart => exact ⟨(([] : List Int)), (0), (0), sqE, sqE, H', ⟨Nat.le_refl _⟩, ⟨by first | exact Kd.R_nil _ _ _ _ _ | exact Kd.N_nil _ _ _ _ _ | exact Kd.V_nil _ _ _ _ _ | exact Kd.Q_nil _ _ _ _ _ | exact Kd.S_nil _ _ _ _ _⟩, ⟨sqB⟩⟩
 case round =>
  clear H'
  try clear c1
  try clear p2
  obtain ⟨x5_1, x6_1, x7_1, rfl, rfl, HA, HK1, HO_5, HB⟩ := hrel
  cases gk with
  | zero => exact absurd HA.out (by simp [r2_Less.l0])
  | succ k1 =>
   have H := HA.out
   clear HA
   simp only [r2_Less.l0] at H
   by_cases c3 : x7_1 < (l0.length : Int)
   case neg =>
    rw [if_neg c3] at H
    have c3b0 := decide_eq_false c3
    clear c3
    obtain ⟨t267, A17, H⟩ := sqO H
    try dsimp only at H
    obtain rfl := Option.some.inj H
    obtain ⟨Ao18, co18, eo18⟩ := Kd.R_slice HO_5.out
    subst eo18
    go_wp2_with (first | ((with_reducible refine gcl (f := 89) rfl ?_); refine gL (some 52) rfl rfl Tryz.func89 (by kernel_rfl) rfl #[.slice Ao18 x5_1.length co18] rfl sqA ?_; (with_reducible refine (r2_trim.calls k1 (fun k_ => some k_ = (.slice Ao18 x5_1.length co18 : Value).ownBlock) (.slice Ao18 x5_1.length co18) x5_1 t267 w _ ?side1 ?side2 A17.out).mono ?_); (case side1 => repeat (first | (with_reducible first | exact HB.out | apply below_alloc | apply pw_below_drewN | apply below_drew1) | exact HB.out)); (case side2 => exact Kd.R_tight rfl HO_5.out); rintro e w19 ⟨v268, rfl, ho0, hb, hkp⟩; refine ⟨_, rfl, ?_⟩; have n0_ := Sd.mk (Kd.R_mono (ok' := fun k_ => True) ho0 (fun k_ hk_ => trivial)); have n1_ := Sd.mk (hb); clear HB; clear HO_5; have HO269 := n0_; have HB := n1_; clear n0_ n1_; (try clear hb); (try clear hkp); (try clear ho0)))
    go_ret
    exact ⟨_, sqE', sqR HO269.out, sqB⟩
   rw [if_pos c3] at H
   have c3b0 := decide_eq_true c3
   clear c3
   by_cases c4 : x7_1 < (l1.length : Int)
   case neg =>
    rw [if_neg c4] at H
    have c4b0 := decide_eq_false c4
    clear c4
    by_cases c11 : 0 ≤ x7_1
    case neg => rw [if_neg c11] at H; exact absurd H (by simp)
    rw [if_pos c11] at H
    have c11b0 := decide_eq_true c11
    clear c11
    by_cases c12 : (rd l0 x7_1) ≥ x6_1
    ·rw [if_pos c12] at H
     have c12b0 := decide_eq_true c12
     clear c12
     by_cases c13 : x5_1.length < 35184372088832
     case neg => rw [if_neg c13] at H; exact absurd H (by simp)
     rw [if_pos c13] at H
     have LMc13 := Sd.mk c13
     clear c13
     obtain ⟨y282, hy282⟩ : ∃ y_ : List Int, y_ = (x5_1 ++ [((rd l0 x7_1) - x6_1) % 4294967296]) := ⟨_, rfl⟩
     replace H : (r2_Less.l0 k1 l0 l1 y282 0 (wrap64 (x7_1 + 1))) = some r := by first | (rw [hy282]; with_reducible exact H) | (have H2_ := (Option.bind_some _ _).symm.trans H; rw [hy282]; with_reducible exact H2_) | (have H2_ := (Option.bind_some _ _).symm.trans H; with_reducible exact H2_) | with_reducible exact H | (rw [hy282]; exact H) | exact H
     have Ny282 := Sd.mk hy282
     clear hy282
     have H' := Sd.mk H
     clear H
     have p280 : 0 ≤ (x7_1 : Int) := sqD
     have q280 : x7_1 < (l0.length : Int) := sqD
     obtain ⟨ad280, e280, hx280_0⟩ := Kd.at_int HR0.out x7_1 p280 q280
     cases e280
     replace hx280_0 := (HB.out.cell (World.block_lt_of_cell? w _ hx280_0)).trans hx280_0
     replace p280 := eq_true p280
     replace q280 := eq_true q280
     have p281 : 0 ≤ (x7_1 : Int) := sqD
     have q281 : x7_1 < (l0.length : Int) := sqD
     obtain ⟨ad281, e281, hx281_0⟩ := Kd.at_int HR0.out x7_1 p281 q281
     obtain rfl : ad280 = ad281 := (by injection e281)
     replace hx281_0 := (HB.out.cell (World.block_lt_of_cell? w _ hx281_0)).trans hx281_0
     replace p281 := eq_true p281
     replace q281 := eq_true q281
     go_wp2_with (first | ((with_reducible refine gate_builtin (b := .append) (xs := #[.tmp 32, .tmp 39]) rfl ?_); at_builtin; refine Kd.R_append (Kd.int .u32) (w0 := w) w.heap.size rfl (.tmp 32) (.tmp 39) 71 83 (.int .u32 0) 4 rfl Tryz.underlying71 info83 rfl (by decide) (by omega) u5 x5_1 (((rd l0 x7_1) - x6_1) % 4294967296) [.int .u32 (((rd l0 x7_1) - x6_1) % 4294967296)] (fun _ => True) (fun _ => False) rfl rfl ?aP (fun _ hk => hk.elim) ?aF ?aO ?aB ?aS ?aL ?_; (case aP => exact rfl); (case aB => exact sqB); (case aF => exact (fun _ _ => trivial)); (case aO => exact (sqR HO_5.out)); (case aS => exact (bsz sqB)); (case aL => have := LMc13.out; omega); intro v283 w14 ho hb hg hat; rw [← Ny282.out] at ho; have n0_ := Sd.mk (hb); have n1_ := Sd.mk (ho); clear HB; clear HO_5; have HB := n0_; have HO284 := n1_; clear n0_ n1_; clear ho hb hg hat))
     go_roundg k1
     case measure => have := HK1.out; omega
     case rel => exact ⟨(y282), (0), (wrap64 (x7_1 + 1)), sqE, sqE, H', ⟨by have := HK1.out; omega⟩, ⟨sqR HO284.out⟩, ⟨sqB⟩⟩
    rw [if_neg c12] at H
    have c12b0 := decide_eq_false c12
    clear c12
    by_cases c15 : x5_1.length < 35184372088832
    case neg => rw [if_neg c15] at H; exact absurd H (by simp)
    rw [if_pos c15] at H
    have LMc15 := Sd.mk c15
    clear c15
    obtain ⟨y286, hy286⟩ : ∃ y_ : List Int, y_ = (x5_1 ++ [((((rd l0 x7_1) + 65536)) - x6_1) % 4294967296]) := ⟨_, rfl⟩
    replace H : (r2_Less.l0 k1 l0 l1 y286 1 (wrap64 (x7_1 + 1))) = some r := by first | (rw [hy286]; with_reducible exact H) | (have H2_ := (Option.bind_some _ _).symm.trans H; rw [hy286]; with_reducible exact H2_) | (have H2_ := (Option.bind_some _ _).symm.trans H; with_reducible exact H2_) | with_reducible exact H | (rw [hy286]; exact H) | exact H
    have Ny286 := Sd.mk hy286
    clear hy286
    have H' := Sd.mk H
    clear H
    have p280 : 0 ≤ (x7_1 : Int) := sqD
    have q280 : x7_1 < (l0.length : Int) := sqD
    obtain ⟨ad280, e280, hx280_0⟩ := Kd.at_int HR0.out x7_1 p280 q280
    cases e280
    replace hx280_0 := (HB.out.cell (World.block_lt_of_cell? w _ hx280_0)).trans hx280_0
    replace p280 := eq_true p280
    replace q280 := eq_true q280
    have p285 : 0 ≤ (x7_1 : Int) := sqD
    have q285 : x7_1 < (l0.length : Int) := sqD
    obtain ⟨ad285, e285, hx285_0⟩ := Kd.at_int HR0.out x7_1 p285 q285
    obtain rfl : ad280 = ad285 := (by injection e285)
    replace hx285_0 := (HB.out.cell (World.block_lt_of_cell? w _ hx285_0)).trans hx285_0
    replace p285 := eq_true p285
    replace q285 := eq_true q285
    go_wp2_with (first | ((with_reducible refine gate_builtin (b := .append) (xs := #[.tmp 41, .tmp 49]) rfl ?_); at_builtin; refine Kd.R_append (Kd.int .u32) (w0 := w) w.heap.size rfl (.tmp 41) (.tmp 49) 71 83 (.int .u32 0) 4 rfl Tryz.underlying71 info83 rfl (by decide) (by omega) u5 x5_1 (((((rd l0 x7_1) + 65536)) - x6_1) % 4294967296) [.int .u32 (((((rd l0 x7_1) + 65536)) - x6_1) % 4294967296)] (fun _ => True) (fun _ => False) rfl rfl ?aP (fun _ hk => hk.elim) ?aF ?aO ?aB ?aS ?aL ?_; (case aP => exact rfl); (case aB => exact sqB); (case aF => exact (fun _ _ => trivial)); (case aO => exact (sqR HO_5.out)); (case aS => exact (bsz sqB)); (case aL => have := LMc15.out; omega); intro v287 w16 ho hb hg hat; rw [← Ny286.out] at ho; have n0_ := Sd.mk (hb); have n1_ := Sd.mk (ho); clear HB; clear HO_5; have HB := n0_; have HO288 := n1_; clear n0_ n1_; clear ho hb hg hat))
    go_roundg k1
    case measure => have := HK1.out; omega
    case rel => exact ⟨(y286), (1), (wrap64 (x7_1 + 1)), sqE, sqE, H', ⟨by have := HK1.out; omega⟩, ⟨sqR HO288.out⟩, ⟨sqB⟩⟩
   rw [if_pos c4] at H
   have c4b0 := decide_eq_true c4
   clear c4
   by_cases c5 : 0 ≤ x7_1
   case neg => rw [if_neg c5] at H; exact absurd H (by simp)
   rw [if_pos c5] at H
   have c5b0 := decide_eq_true c5
   clear c5
   by_cases c6 : (rd l0 x7_1) ≥ ((x6_1 + (rd l1 x7_1)) % 4294967296)
   ·rw [if_pos c6] at H
    have c6b0 := decide_eq_true c6
    clear c6
    by_cases c7 : x5_1.length < 35184372088832
    case neg => rw [if_neg c7] at H; exact absurd H (by simp)
    rw [if_pos c7] at H
    have LMc7 := Sd.mk c7
    clear c7
    obtain ⟨y273, hy273⟩ : ∃ y_ : List Int, y_ = (x5_1 ++ [((rd l0 x7_1) - ((x6_1 + (rd l1 x7_1)))) % 4294967296]) := ⟨_, rfl⟩
    replace H : (r2_Less.l0 k1 l0 l1 y273 0 (wrap64 (x7_1 + 1))) = some r := by first | (rw [hy273]; with_reducible exact H) | (have H2_ := (Option.bind_some _ _).symm.trans H; rw [hy273]; with_reducible exact H2_) | (have H2_ := (Option.bind_some _ _).symm.trans H; with_reducible exact H2_) | with_reducible exact H | (rw [hy273]; exact H) | exact H
    have Ny273 := Sd.mk hy273
    clear hy273
    have H' := Sd.mk H
    clear H
    have p270 : 0 ≤ (x7_1 : Int) := sqD
    have q270 : x7_1 < (l1.length : Int) := sqD
    obtain ⟨ad270, e270, hx270_0⟩ := Kd.at_int HR1.out x7_1 p270 q270
    cases e270
    replace hx270_0 := (HB.out.cell (World.block_lt_of_cell? w _ hx270_0)).trans hx270_0
    replace p270 := eq_true p270
    replace q270 := eq_true q270
    have p271 : 0 ≤ (x7_1 : Int) := sqD
    have q271 : x7_1 < (l0.length : Int) := sqD
    obtain ⟨ad271, e271, hx271_0⟩ := Kd.at_int HR0.out x7_1 p271 q271
    cases e271
    replace hx271_0 := (HB.out.cell (World.block_lt_of_cell? w _ hx271_0)).trans hx271_0
    replace p271 := eq_true p271
    replace q271 := eq_true q271
    have p272 : 0 ≤ (x7_1 : Int) := sqD
    have q272 : x7_1 < (l0.length : Int) := sqD
    obtain ⟨ad272, e272, hx272_0⟩ := Kd.at_int HR0.out x7_1 p272 q272
    obtain rfl : ad271 = ad272 := (by injection e272)
    replace hx272_0 := (HB.out.cell (World.block_lt_of_cell? w _ hx272_0)).trans hx272_0
    replace p272 := eq_true p272
    replace q272 := eq_true q272
    go_wp2_with (first | ((with_reducible refine gate_builtin (b := .append) (xs := #[.tmp 32, .tmp 39]) rfl ?_); at_builtin; refine Kd.R_append (Kd.int .u32) (w0 := w) w.heap.size rfl (.tmp 32) (.tmp 39) 71 83 (.int .u32 0) 4 rfl Tryz.underlying71 info83 rfl (by decide) (by omega) u5 x5_1 (((rd l0 x7_1) - ((x6_1 + (rd l1 x7_1)))) % 4294967296) [.int .u32 (((rd l0 x7_1) - ((x6_1 + (rd l1 x7_1)))) % 4294967296)] (fun _ => True) (fun _ => False) rfl rfl ?aP (fun _ hk => hk.elim) ?aF ?aO ?aB ?aS ?aL ?_; (case aP => exact rfl); (case aB => exact sqB); (case aF => exact (fun _ _ => trivial)); (case aO => exact (sqR HO_5.out)); (case aS => exact (bsz sqB)); (case aL => have := LMc7.out; omega); intro v274 w8 ho hb hg hat; rw [← Ny273.out] at ho; have n0_ := Sd.mk (hb); have n1_ := Sd.mk (ho); clear HB; clear HO_5; have HB := n0_; have HO275 := n1_; clear n0_ n1_; clear ho hb hg hat))
    go_roundg k1
    case measure => have := HK1.out; omega
    case rel => exact ⟨(y273), (0), (wrap64 (x7_1 + 1)), sqE, sqE, H', ⟨by have := HK1.out; omega⟩, ⟨sqR HO275.out⟩, ⟨sqB⟩⟩
   rw [if_neg c6] at H
   have c6b0 := decide_eq_false c6
   clear c6
   by_cases c9 : x5_1.length < 35184372088832
   case neg => rw [if_neg c9] at H; exact absurd H (by simp)
   rw [if_pos c9] at H
   have LMc9 := Sd.mk c9
   clear c9
   obtain ⟨y277, hy277⟩ : ∃ y_ : List Int, y_ = (x5_1 ++ [((((rd l0 x7_1) + 65536)) - ((x6_1 + (rd l1 x7_1)))) % 4294967296]) := ⟨_, rfl⟩
   replace H : (r2_Less.l0 k1 l0 l1 y277 1 (wrap64 (x7_1 + 1))) = some r := by first | (rw [hy277]; with_reducible exact H) | (have H2_ := (Option.bind_some _ _).symm.trans H; rw [hy277]; with_reducible exact H2_) | (have H2_ := (Option.bind_some _ _).symm.trans H; with_reducible exact H2_) | with_reducible exact H | (rw [hy277]; exact H) | exact H
   have Ny277 := Sd.mk hy277
   clear hy277
   have H' := Sd.mk H
   clear H
   have p270 : 0 ≤ (x7_1 : Int) := sqD
   have q270 : x7_1 < (l1.length : Int) := sqD
   obtain ⟨ad270, e270, hx270_0⟩ := Kd.at_int HR1.out x7_1 p270 q270
   cases e270
   replace hx270_0 := (HB.out.cell (World.block_lt_of_cell? w _ hx270_0)).trans hx270_0
   replace p270 := eq_true p270
   replace q270 := eq_true q270
   have p271 : 0 ≤ (x7_1 : Int) := sqD
   have q271 : x7_1 < (l0.length : Int) := sqD
   obtain ⟨ad271, e271, hx271_0⟩ := Kd.at_int HR0.out x7_1 p271 q271
   cases e271
   replace hx271_0 := (HB.out.cell (World.block_lt_of_cell? w _ hx271_0)).trans hx271_0
   replace p271 := eq_true p271
   replace q271 := eq_true q271
   have p276 : 0 ≤ (x7_1 : Int) := sqD
   have q276 : x7_1 < (l0.length : Int) := sqD
   obtain ⟨ad276, e276, hx276_0⟩ := Kd.at_int HR0.out x7_1 p276 q276
   obtain rfl : ad271 = ad276 := (by injection e276)
   replace hx276_0 := (HB.out.cell (World.block_lt_of_cell? w _ hx276_0)).trans hx276_0
   replace p276 := eq_true p276
   replace q276 := eq_true q276
   go_wp2_with (first | ((with_reducible refine gate_builtin (b := .append) (xs := #[.tmp 41, .tmp 49]) rfl ?_); at_builtin; refine Kd.R_append (Kd.int .u32) (w0 := w) w.heap.size rfl (.tmp 41) (.tmp 49) 71 83 (.int .u32 0) 4 rfl Tryz.underlying71 info83 rfl (by decide) (by omega) u5 x5_1 (((((rd l0 x7_1) + 65536)) - ((x6_1 + (rd l1 x7_1)))) % 4294967296) [.int .u32 (((((rd l0 x7_1) + 65536)) - ((x6_1 + (rd l1 x7_1)))) % 4294967296)] (fun _ => True) (fun _ => False) rfl rfl ?aP (fun _ hk => hk.elim) ?aF ?aO ?aB ?aS ?aL ?_; (case aP => exact rfl); (case aB => exact sqB); (case aF => exact (fun _ _ => trivial)); (case aO => exact (sqR HO_5.out)); (case aS => exact (bsz sqB)); (case aL => have := LMc9.out; omega); intro v278 w10 ho hb hg hat; rw [← Ny277.out] at ho; have n0_ := Sd.mk (hb); have n1_ := Sd.mk (ho); clear HB; clear HO_5; have HB := n0_; have HO279 := n1_; clear n0_ n1_; clear ho hb hg hat))
   go_roundg k1
   case measure => have := HK1.out; omega
   case rel => exact ⟨(y277), (1), (wrap64 (x7_1 + 1)), sqE, sqE, H', ⟨by have := HK1.out; omega⟩, ⟨sqR HO279.out⟩, ⟨sqB⟩⟩
mutual
def r2_Plus.l0 : Nat → List Int → List Int → List Int → Int → Int → Option (List Int)
 | 0, _, _, _, _, _ => none
 | k + 1, x0, x1, x5, x6, x7 => if x7 < (x0.length : Int) then (r2_Plus.j1 k x0 x1 x5 x6 x7 true) else (r2_Plus.j1 k x0 x1 x5 x6 x7 (decide (x7 < (x1.length : Int))))
def r2_Plus.j1 : Nat → List Int → List Int → List Int → Int → Int → Bool → Option (List Int)
 | 0, _, _, _, _, _, _ => none
 | k + 1, x0, x1, x5, x6, x7, x17 => if x17 = true then (if x7 < (x0.length : Int) then (if 0 ≤ x7 then (if x7 < (x1.length : Int) then (if x5.length < 35184372088832 then (r2_Plus.l0 k x0 x1 (x5 ++ [Go.bits .and .u32 ((((x6 + (rd x0 x7))) + (rd x1 x7)) % 4294967296) 65535]) (((((x6 + (rd x0 x7))) + (rd x1 x7)) % 4294967296) / 65536) (wrap64 (x7 + 1))) else (none)) else (if x5.length < 35184372088832 then (r2_Plus.l0 k x0 x1 (x5 ++ [Go.bits .and .u32 ((x6 + (rd x0 x7)) % 4294967296) 65535]) (((x6 + (rd x0 x7)) % 4294967296) / 65536) (wrap64 (x7 + 1))) else (none))) else (none)) else (if x7 < (x1.length : Int) then (if 0 ≤ x7 then (if x5.length < 35184372088832 then (r2_Plus.l0 k x0 x1 (x5 ++ [Go.bits .and .u32 ((x6 + (rd x1 x7)) % 4294967296) 65535]) (((x6 + (rd x1 x7)) % 4294967296) / 65536) (wrap64 (x7 + 1))) else (none)) else (none)) else (if x5.length < 35184372088832 then (r2_Plus.l0 k x0 x1 (x5 ++ [Go.bits .and .u32 x6 65535]) (x6 / 65536) (wrap64 (x7 + 1))) else (none)))) else (if x6 > 0 then (if x5.length < 35184372088832 then (some (x5 ++ [x6])) else (none)) else (some x5))
end
def r2_Plus.f (k : Nat) (l0 : List Int) (l1 : List Int) : Option (List Int) := r2_Plus.l0 k l0 l1 ([] : List Int) 0 0
theorem r2_Plus.mono_l : ∀ k, (∀ y0 y1 y2 y3 y4, LeO (r2_Plus.l0 k y0 y1 y2 y3 y4) (r2_Plus.l0 (k + 1) y0 y1 y2 y3 y4)) ∧ (∀ y0 y1 y2 y3 y4 y5, LeO (r2_Plus.j1 k y0 y1 y2 y3 y4 y5) (r2_Plus.j1 (k + 1) y0 y1 y2 y3 y4 y5))
 | 0 => ⟨fun _ _ _ _ _ r h => by simp [r2_Plus.l0] at h, fun _ _ _ _ _ _ r h => by simp [r2_Plus.j1] at h⟩
 | k + 1 => by
  obtain ⟨ih0, ih1⟩ := r2_Plus.mono_l k
  refine ⟨?_, ?_⟩
  ·intro y0 y1 y2 y3 y4
   unfold r2_Plus.l0
   repeat' first | (with_reducible first | apply ih0 | apply ih1 | apply LeO.refl | apply LeO.none | refine LeO.ite ?_ ?_ | refine LeO.bind ?_ (fun _ => ?_)) | apply LeO.none | refine LeO.ite ?_ ?_ | refine LeO.bind ?_ (fun _ => ?_)
  intro y0 y1 y2 y3 y4 y5
  unfold r2_Plus.j1
  repeat' first | (with_reducible first | apply ih0 | apply ih1 | apply LeO.refl | apply LeO.none | refine LeO.ite ?_ ?_ | refine LeO.bind ?_ (fun _ => ?_)) | apply LeO.none | refine LeO.ite ?_ ?_ | refine LeO.bind ?_ (fun _ => ?_)
theorem r2_Plus.mono : ∀ a0 a1 k, LeO (r2_Plus.f k a0 a1) (r2_Plus.f (k + 1) a0 a1) := by
 intro a0 a1 k
 obtain ⟨ih0, ih1⟩ := r2_Plus.mono_l k
 unfold r2_Plus.f
 repeat' first | (with_reducible first | apply ih0 | apply ih1 | apply LeO.refl | apply LeO.none | refine LeO.ite ?_ ?_ | refine LeO.bind ?_ (fun _ => ?_)) | apply LeO.none | refine LeO.ite ?_ ?_ | refine LeO.bind ?_ (fun _ => ?_)
theorem r2_Plus.calls (k : Nat) (A0 : Option Addr) (c0 : Nat) (l0 : List Int) (A1 : Option Addr) (c1 : Nat) (l1 : List Int) (r : List Int) (w : World) (hr0 : Kd.C (Kd.int .u32) w A0 l0.length l0) (hc0 : l0.length ≤ c0) (hr1 : Kd.C (Kd.int .u32) w A1 l1.length l1) (hc1 : l1.length ≤ c1) (h : r2_Plus.f k l0 l1 = some r) :
  Calls Tryz.prog 99 #[.slice A0 l0.length c0, .slice A1 l1.length c1] w fun e w' => ∃ v0_ : Value, e = .returned (v0_) ∧ Kd.R (Kd.int .u32) 83 w' w.heap.size (fun _ => True) v0_ r ∧ Below w.heap.size w w' := by
 have HR0 := Sd.mk hr0
 have HC0 := Sd.mk hc0
 clear hr0 hc0
 have HR1 := Sd.mk hr1
 have HC1 := Sd.mk hc1
 clear hr1 hc1
 have HB := Sd.mk (Below.refl w.heap.size w)
 have H : (r2_Plus.l0 k l0 l1 ([] : List Int) 0 0) = some r := h
 clear h
 have H' := Sd.mk H
 clear H
 go_enter Tryz.func99, Tryz.ntmps99
 go_wp2
 go_loopg [5, 6, 7] k (fun kq v5 v6 v7 w' => ∃ (x5_1 : List Int) (x6_1 : Int) (x7_1 : Int), v6 = .int .u32 x6_1 ∧ v7 = .int .i64 x7_1 ∧ Sd (r2_Plus.l0 kq l0 l1 x5_1 x6_1 x7_1 = some r) ∧ Sd (kq ≤ k) ∧ Sd (Kd.R (Kd.int .u32) 83 w' w.heap.size (fun _ => True) v5 x5_1) ∧ Sd (Below w.heap.size w w'))
 case atStart => exact ⟨(([] : List Int)), (0), (0), sqE, sqE, H', ⟨Nat.le_refl _⟩, ⟨by first | exact Kd.R_nil _ _ _ _ _ | exact Kd.N_nil _ _ _ _ _ | exact Kd.V_nil _ _ _ _ _ | exact Kd.Q_nil _ _ _ _ _ | exact Kd.S_nil _ _ _ _ _⟩, ⟨sqB⟩⟩
 case round =>
  clear H'
  try clear c1
  try clear p2
  obtain ⟨x5_1, x6_1, x7_1, rfl, rfl, HA, HK1, HO_5, HB⟩ := hrel
  cases gk with
  | zero => exact absurd HA.out (by simp [r2_Plus.l0])
  | succ k1 =>
   have H := HA.out
   clear HA
   simp only [r2_Plus.l0] at H
   have HC3 := Sd.mk H
   clear H
   go_upto_region 4 with (fail)
   go_cut [17] (fun v17 wc => ∃ (kq : Nat) (x17_2 : Bool), v17 = .bool x17_2 ∧ Sd (r2_Plus.j1 kq l0 l1 x5_1 x6_1 x7_1 x17_2 = some r) ∧ Sd (kq ≤ k1) ∧ Sd (Kd.R (Kd.int .u32) 83 wc w.heap.size (fun _ => True) u5 x5_1) ∧ Sd (Below w.heap.size w wc))
   case first =>
    have H := HC3.out
    clear HC3
    by_cases c4 : x7_1 < (l0.length : Int)
    ·rw [if_pos c4] at H
     have c4b0 := decide_eq_true c4
     clear c4
     (first | rw [c4b0] | (simp only [i64_w, i32_w]; rw [c4b0]) | skip)
     have H' := Sd.mk H
     clear H
     go_wp2
     go_meet
     case rel => exact ⟨_, (true), sqE, H', ⟨by have := HK1.out; first | omega | exact Nat.le_refl _⟩, ⟨sqR HO_5.out⟩, ⟨sqB⟩⟩
    rw [if_neg c4] at H
    have c4b0 := decide_eq_false c4
    clear c4
    (first | rw [c4b0] | (simp only [i64_w, i32_w]; rw [c4b0]) | skip)
    have H' := Sd.mk H
    clear H
    go_wp2
    go_meet
    case rel => exact ⟨_, (decide (x7_1 < (l1.length : Int))), sqE, H', ⟨by have := HK1.out; first | omega | exact Nat.le_refl _⟩, ⟨sqR HO_5.out⟩, ⟨sqB⟩⟩
   case rest =>
    clear HC3
    try clear c1
    try clear p2
    try clear c4
    try clear c4b0
    try clear p2
    obtain ⟨kq, x17_2, rfl, HA, HJ2, HO_5, HB⟩ := hcut
    cases kq with
    | zero => exact absurd HA.out (by simp [r2_Plus.j1])
    | succ kj2 =>
     have H := HA.out
     clear HA
     simp only [r2_Plus.j1] at H
     by_cases c5 : x17_2 = true
     case neg =>
      replace c5 := Bool.eq_false_iff.mpr c5
      subst c5
      have H1 : (if x6_1 > 0 then (if x5_1.length < 35184372088832 then (some (x5_1 ++ [x6_1])) else (none)) else (some x5_1)) = some r := by rw [if_neg (show ¬ (false = true) by decide)] at H; exact H
      clear H
      have H := H1
      clear H1
      by_cases c19 : x6_1 > 0
      case neg =>
       rw [if_neg c19] at H
       have c19b0 := decide_eq_false c19
       clear c19
       obtain rfl := Option.some.inj H
       go_wp2
       go_ret
       exact ⟨_, sqE', sqR HO_5.out, sqB⟩
      rw [if_pos c19] at H
      have c19b0 := decide_eq_true c19
      clear c19
      by_cases c20 : x5_1.length < 35184372088832
      case neg => rw [if_neg c20] at H; exact absurd H (by simp)
      rw [if_pos c20] at H
      have LMc20 := Sd.mk c20
      clear c20
      obtain ⟨y289, hy289⟩ : ∃ y_ : List Int, y_ = (x5_1 ++ [x6_1]) := ⟨_, rfl⟩
      replace H : (some y289) = some r := by first | (rw [hy289]; with_reducible exact H) | (have H2_ := (Option.bind_some _ _).symm.trans H; rw [hy289]; with_reducible exact H2_) | (have H2_ := (Option.bind_some _ _).symm.trans H; with_reducible exact H2_) | with_reducible exact H | (rw [hy289]; exact H) | exact H
      have Ny289 := Sd.mk hy289
      clear hy289
      obtain rfl := Option.some.inj H
      go_wp2_with (first | ((with_reducible refine gate_builtin (b := .append) (xs := #[.tmp 49, .tmp 51]) rfl ?_); (try (refine ggd (by rfl) ?_; dsimp only)); at_builtin; refine Kd.R_append (Kd.int .u32) (w0 := w) w.heap.size rfl (.tmp 49) (.tmp 51) 71 83 (.int .u32 0) 4 rfl Tryz.underlying71 info83 rfl (by decide) (by omega) u5 x5_1 x6_1 [.int .u32 x6_1] (fun _ => True) (fun _ => False) rfl rfl ?aP (fun _ hk => hk.elim) ?aF ?aO ?aB ?aS ?aL ?_; (case aP => exact rfl); (case aB => exact sqB); (case aF => exact (fun _ _ => trivial)); (case aO => exact (sqR HO_5.out)); (case aS => exact (bsz sqB)); (case aL => have := LMc20.out; omega); intro v290 w21 ho hb hg hat; rw [← Ny289.out] at ho; have n0_ := Sd.mk (hb); have n1_ := Sd.mk (ho); clear HB; clear HO_5; have HB := n0_; have HO291 := n1_; clear n0_ n1_; clear ho hb hg hat))
      go_ret
      exact ⟨_, sqE', sqR HO291.out, sqB⟩
     subst c5
     have H1 : (if x7_1 < (l0.length : Int) then (if 0 ≤ x7_1 then (if x7_1 < (l1.length : Int) then (if x5_1.length < 35184372088832 then (r2_Plus.l0 kj2 l0 l1 (x5_1 ++ [Go.bits .and .u32 ((((x6_1 + (rd l0 x7_1))) + (rd l1 x7_1)) % 4294967296) 65535]) (((((x6_1 + (rd l0 x7_1))) + (rd l1 x7_1)) % 4294967296) / 65536) (wrap64 (x7_1 + 1))) else (none)) else (if x5_1.length < 35184372088832 then (r2_Plus.l0 kj2 l0 l1 (x5_1 ++ [Go.bits .and .u32 ((x6_1 + (rd l0 x7_1)) % 4294967296) 65535]) (((x6_1 + (rd l0 x7_1)) % 4294967296) / 65536) (wrap64 (x7_1 + 1))) else (none))) else (none)) else (if x7_1 < (l1.length : Int) then (if 0 ≤ x7_1 then (if x5_1.length < 35184372088832 then (r2_Plus.l0 kj2 l0 l1 (x5_1 ++ [Go.bits .and .u32 ((x6_1 + (rd l1 x7_1)) % 4294967296) 65535]) (((x6_1 + (rd l1 x7_1)) % 4294967296) / 65536) (wrap64 (x7_1 + 1))) else (none)) else (none)) else (if x5_1.length < 35184372088832 then (r2_Plus.l0 kj2 l0 l1 (x5_1 ++ [Go.bits .and .u32 x6_1 65535]) (x6_1 / 65536) (wrap64 (x7_1 + 1))) else (none)))) = some r := by rw [if_pos rfl] at H; exact H
     clear H
     have H := H1
     clear H1
     by_cases c6 : x7_1 < (l0.length : Int)
     case neg =>
      rw [if_neg c6] at H
      have c6b0 := decide_eq_false c6
      clear c6
      by_cases c13 : x7_1 < (l1.length : Int)
      case neg =>
       rw [if_neg c13] at H
       have c13b0 := decide_eq_false c13
       clear c13
       by_cases c17 : x5_1.length < 35184372088832
       case neg => rw [if_neg c17] at H; exact absurd H (by simp)
       rw [if_pos c17] at H
       have LMc17 := Sd.mk c17
       clear c17
       obtain ⟨y304, hy304⟩ : ∃ y_ : List Int, y_ = (x5_1 ++ [Go.bits .and .u32 x6_1 65535]) := ⟨_, rfl⟩
       replace H : (r2_Plus.l0 kj2 l0 l1 y304 (x6_1 / 65536) (wrap64 (x7_1 + 1))) = some r := by first | (rw [hy304]; with_reducible exact H) | (have H2_ := (Option.bind_some _ _).symm.trans H; rw [hy304]; with_reducible exact H2_) | (have H2_ := (Option.bind_some _ _).symm.trans H; with_reducible exact H2_) | with_reducible exact H | (rw [hy304]; exact H) | exact H
       have Ny304 := Sd.mk hy304
       clear hy304
       have H' := Sd.mk H
       clear H
       go_wp2_with (first | ((with_reducible refine gate_builtin (b := .append) (xs := #[.tmp 40, .tmp 43]) rfl ?_); (try (refine ggd (by rfl) ?_; dsimp only)); at_builtin; refine Kd.R_append (Kd.int .u32) (w0 := w) w.heap.size rfl (.tmp 40) (.tmp 43) 71 83 (.int .u32 0) 4 rfl Tryz.underlying71 info83 rfl (by decide) (by omega) u5 x5_1 (Go.bits .and .u32 x6_1 65535) [.int .u32 (Go.bits .and .u32 x6_1 65535)] (fun _ => True) (fun _ => False) rfl rfl ?aP (fun _ hk => hk.elim) ?aF ?aO ?aB ?aS ?aL ?_; (case aP => exact rfl); (case aB => exact sqB); (case aF => exact (fun _ _ => trivial)); (case aO => exact (sqR HO_5.out)); (case aS => exact (bsz sqB)); (case aL => have := LMc17.out; omega); intro v305 w18 ho hb hg hat; rw [← Ny304.out] at ho; have n0_ := Sd.mk (hb); have n1_ := Sd.mk (ho); clear HB; clear HO_5; have HB := n0_; have HO306 := n1_; clear n0_ n1_; clear ho hb hg hat))
       go_roundg kj2
       case measure => have := HK1.out; have := HJ2.out; omega
       case rel => exact ⟨(y304), (x6_1 / 65536), (wrap64 (x7_1 + 1)), sqE, sqE, H', ⟨by have := HK1.out; have := HJ2.out; omega⟩, ⟨sqR HO306.out⟩, ⟨sqB⟩⟩
      rw [if_pos c13] at H
      have c13b0 := decide_eq_true c13
      clear c13
      by_cases c14 : 0 ≤ x7_1
      case neg => rw [if_neg c14] at H; exact absurd H (by simp)
      rw [if_pos c14] at H
      have c14b0 := decide_eq_true c14
      clear c14
      by_cases c15 : x5_1.length < 35184372088832
      case neg => rw [if_neg c15] at H; exact absurd H (by simp)
      rw [if_pos c15] at H
      have LMc15 := Sd.mk c15
      clear c15
      obtain ⟨y301, hy301⟩ : ∃ y_ : List Int, y_ = (x5_1 ++ [Go.bits .and .u32 ((x6_1 + (rd l1 x7_1)) % 4294967296) 65535]) := ⟨_, rfl⟩
      replace H : (r2_Plus.l0 kj2 l0 l1 y301 (((x6_1 + (rd l1 x7_1)) % 4294967296) / 65536) (wrap64 (x7_1 + 1))) = some r := by first | (rw [hy301]; with_reducible exact H) | (have H2_ := (Option.bind_some _ _).symm.trans H; rw [hy301]; with_reducible exact H2_) | (have H2_ := (Option.bind_some _ _).symm.trans H; with_reducible exact H2_) | with_reducible exact H | (rw [hy301]; exact H) | exact H
      have Ny301 := Sd.mk hy301
      clear hy301
      have H' := Sd.mk H
      clear H
      have p300 : 0 ≤ (x7_1 : Int) := sqD
      have q300 : x7_1 < (l1.length : Int) := sqD
      obtain ⟨ad300, e300, hx300_0⟩ := Kd.at_int HR1.out x7_1 p300 q300
      cases e300
      replace hx300_0 := (HB.out.cell (World.block_lt_of_cell? w _ hx300_0)).trans hx300_0
      replace p300 := eq_true p300
      replace q300 := eq_true q300
      go_wp2_with (first | ((with_reducible refine gate_builtin (b := .append) (xs := #[.tmp 40, .tmp 43]) rfl ?_); (try (refine ggd (by rfl) ?_; dsimp only)); at_builtin; refine Kd.R_append (Kd.int .u32) (w0 := w) w.heap.size rfl (.tmp 40) (.tmp 43) 71 83 (.int .u32 0) 4 rfl Tryz.underlying71 info83 rfl (by decide) (by omega) u5 x5_1 (Go.bits .and .u32 ((x6_1 + (rd l1 x7_1)) % 4294967296) 65535) [.int .u32 (Go.bits .and .u32 ((x6_1 + (rd l1 x7_1)) % 4294967296) 65535)] (fun _ => True) (fun _ => False) rfl rfl ?aP (fun _ hk => hk.elim) ?aF ?aO ?aB ?aS ?aL ?_; (case aP => exact rfl); (case aB => exact sqB); (case aF => exact (fun _ _ => trivial)); (case aO => exact (sqR HO_5.out)); (case aS => exact (bsz sqB)); (case aL => have := LMc15.out; omega); intro v302 w16 ho hb hg hat; rw [← Ny301.out] at ho; have n0_ := Sd.mk (hb); have n1_ := Sd.mk (ho); clear HB; clear HO_5; have HB := n0_; have HO303 := n1_; clear n0_ n1_; clear ho hb hg hat))
      go_roundg kj2
      case measure => have := HK1.out; have := HJ2.out; omega
      case rel => exact ⟨(y301), (((x6_1 + (rd l1 x7_1)) % 4294967296) / 65536), (wrap64 (x7_1 + 1)), sqE, sqE, H', ⟨by have := HK1.out; have := HJ2.out; omega⟩, ⟨sqR HO303.out⟩, ⟨sqB⟩⟩
     rw [if_pos c6] at H
     have c6b0 := decide_eq_true c6
     clear c6
     by_cases c7 : 0 ≤ x7_1
     case neg => rw [if_neg c7] at H; exact absurd H (by simp)
     rw [if_pos c7] at H
     have c7b0 := decide_eq_true c7
     clear c7
     by_cases c8 : x7_1 < (l1.length : Int)
     case neg =>
      rw [if_neg c8] at H
      have c8b0 := decide_eq_false c8
      clear c8
      by_cases c11 : x5_1.length < 35184372088832
      case neg => rw [if_neg c11] at H; exact absurd H (by simp)
      rw [if_pos c11] at H
      have LMc11 := Sd.mk c11
      clear c11
      obtain ⟨y297, hy297⟩ : ∃ y_ : List Int, y_ = (x5_1 ++ [Go.bits .and .u32 ((x6_1 + (rd l0 x7_1)) % 4294967296) 65535]) := ⟨_, rfl⟩
      replace H : (r2_Plus.l0 kj2 l0 l1 y297 (((x6_1 + (rd l0 x7_1)) % 4294967296) / 65536) (wrap64 (x7_1 + 1))) = some r := by first | (rw [hy297]; with_reducible exact H) | (have H2_ := (Option.bind_some _ _).symm.trans H; rw [hy297]; with_reducible exact H2_) | (have H2_ := (Option.bind_some _ _).symm.trans H; with_reducible exact H2_) | with_reducible exact H | (rw [hy297]; exact H) | exact H
      have Ny297 := Sd.mk hy297
      clear hy297
      have H' := Sd.mk H
      clear H
      have p292 : 0 ≤ (x7_1 : Int) := sqD
      have q292 : x7_1 < (l0.length : Int) := sqD
      obtain ⟨ad292, e292, hx292_0⟩ := Kd.at_int HR0.out x7_1 p292 q292
      cases e292
      replace hx292_0 := (HB.out.cell (World.block_lt_of_cell? w _ hx292_0)).trans hx292_0
      replace p292 := eq_true p292
      replace q292 := eq_true q292
      go_wp2_with (first | ((with_reducible refine gate_builtin (b := .append) (xs := #[.tmp 40, .tmp 43]) rfl ?_); (try (refine ggd (by rfl) ?_; dsimp only)); at_builtin; refine Kd.R_append (Kd.int .u32) (w0 := w) w.heap.size rfl (.tmp 40) (.tmp 43) 71 83 (.int .u32 0) 4 rfl Tryz.underlying71 info83 rfl (by decide) (by omega) u5 x5_1 (Go.bits .and .u32 ((x6_1 + (rd l0 x7_1)) % 4294967296) 65535) [.int .u32 (Go.bits .and .u32 ((x6_1 + (rd l0 x7_1)) % 4294967296) 65535)] (fun _ => True) (fun _ => False) rfl rfl ?aP (fun _ hk => hk.elim) ?aF ?aO ?aB ?aS ?aL ?_; (case aP => exact rfl); (case aB => exact sqB); (case aF => exact (fun _ _ => trivial)); (case aO => exact (sqR HO_5.out)); (case aS => exact (bsz sqB)); (case aL => have := LMc11.out; omega); intro v298 w12 ho hb hg hat; rw [← Ny297.out] at ho; have n0_ := Sd.mk (hb); have n1_ := Sd.mk (ho); clear HB; clear HO_5; have HB := n0_; have HO299 := n1_; clear n0_ n1_; clear ho hb hg hat))
      go_roundg kj2
      case measure => have := HK1.out; have := HJ2.out; omega
      case rel => exact ⟨(y297), (((x6_1 + (rd l0 x7_1)) % 4294967296) / 65536), (wrap64 (x7_1 + 1)), sqE, sqE, H', ⟨by have := HK1.out; have := HJ2.out; omega⟩, ⟨sqR HO299.out⟩, ⟨sqB⟩⟩
     rw [if_pos c8] at H
     have c8b0 := decide_eq_true c8
     clear c8
     by_cases c9 : x5_1.length < 35184372088832
     case neg => rw [if_neg c9] at H; exact absurd H (by simp)
     rw [if_pos c9] at H
     have LMc9 := Sd.mk c9
     clear c9
     obtain ⟨y294, hy294⟩ : ∃ y_ : List Int, y_ = (x5_1 ++ [Go.bits .and .u32 ((((x6_1 + (rd l0 x7_1))) + (rd l1 x7_1)) % 4294967296) 65535]) := ⟨_, rfl⟩
     replace H : (r2_Plus.l0 kj2 l0 l1 y294 (((((x6_1 + (rd l0 x7_1))) + (rd l1 x7_1)) % 4294967296) / 65536) (wrap64 (x7_1 + 1))) = some r := by first | (rw [hy294]; with_reducible exact H) | (have H2_ := (Option.bind_some _ _).symm.trans H; rw [hy294]; with_reducible exact H2_) | (have H2_ := (Option.bind_some _ _).symm.trans H; with_reducible exact H2_) | with_reducible exact H | (rw [hy294]; exact H) | exact H
     have Ny294 := Sd.mk hy294
     clear hy294
     have H' := Sd.mk H
     clear H
     have p292 : 0 ≤ (x7_1 : Int) := sqD
     have q292 : x7_1 < (l0.length : Int) := sqD
     obtain ⟨ad292, e292, hx292_0⟩ := Kd.at_int HR0.out x7_1 p292 q292
     cases e292
     replace hx292_0 := (HB.out.cell (World.block_lt_of_cell? w _ hx292_0)).trans hx292_0
     replace p292 := eq_true p292
     replace q292 := eq_true q292
     have p293 : 0 ≤ (x7_1 : Int) := sqD
     have q293 : x7_1 < (l1.length : Int) := sqD
     obtain ⟨ad293, e293, hx293_0⟩ := Kd.at_int HR1.out x7_1 p293 q293
     cases e293
     replace hx293_0 := (HB.out.cell (World.block_lt_of_cell? w _ hx293_0)).trans hx293_0
     replace p293 := eq_true p293
     replace q293 := eq_true q293
     go_wp2_with (first | ((with_reducible refine gate_builtin (b := .append) (xs := #[.tmp 40, .tmp 43]) rfl ?_); (try (refine ggd (by rfl) ?_; dsimp only)); at_builtin; refine Kd.R_append (Kd.int .u32) (w0 := w) w.heap.size rfl (.tmp 40) (.tmp 43) 71 83 (.int .u32 0) 4 rfl Tryz.underlying71 info83 rfl (by decide) (by omega) u5 x5_1 (Go.bits .and .u32 ((((x6_1 + (rd l0 x7_1))) + (rd l1 x7_1)) % 4294967296) 65535) [.int .u32 (Go.bits .and .u32 ((((x6_1 + (rd l0 x7_1))) + (rd l1 x7_1)) % 4294967296) 65535)] (fun _ => True) (fun _ => False) rfl rfl ?aP (fun _ hk => hk.elim) ?aF ?aO ?aB ?aS ?aL ?_; (case aP => exact rfl); (case aB => exact sqB); (case aF => exact (fun _ _ => trivial)); (case aO => exact (sqR HO_5.out)); (case aS => exact (bsz sqB)); (case aL => have := LMc9.out; omega); intro v295 w10 ho hb hg hat; rw [← Ny294.out] at ho; have n0_ := Sd.mk (hb); have n1_ := Sd.mk (ho); clear HB; clear HO_5; have HB := n0_; have HO296 := n1_; clear n0_ n1_; clear ho hb hg hat))
     go_roundg kj2
     case measure => have := HK1.out; have := HJ2.out; omega
     case rel => exact ⟨(y294), (((((x6_1 + (rd l0 x7_1))) + (rd l1 x7_1)) % 4294967296) / 65536), (wrap64 (x7_1 + 1)), sqE, sqE, H', ⟨by have := HK1.out; have := HJ2.out; omega⟩, ⟨sqR HO296.out⟩, ⟨sqB⟩⟩
end Go.Proofs.YtfmjdoofopamkaaGreatDoor.W
