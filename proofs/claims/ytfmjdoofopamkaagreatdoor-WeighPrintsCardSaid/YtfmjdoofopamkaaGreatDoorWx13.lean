import Derived.Test.YtfmjdoofopamkaaGreatDoorWx0
import Derived.Test.YtfmjdoofopamkaaGreatDoorWx8
namespace Go.Proofs.YtfmjdoofopamkaaGreatDoor.W
open Go.RowKit Go.Proofs.YtfmjdoofopamkaaGreatDoorW.PrintWords Go.Proofs.YtfmjdoofopamkaaGreatDoorW.PrintLast Go.Proofs.YtfmjdoofopamkaaGreatDoorW.PrintMore
set_option maxHeartbeats 8000000
set_option maxRecDepth 100000
attribute [local go_sem] max2_int min2_int max_two min_two max_three min_three max_four min_four
set_option linter.unusedVariables false
set_option linter.unusedSimpArgs false
mutual
def r2_Product.l0 : Nat → List Int → List Int → List Int → Int → Option (List Int)
 | 0, _, _, _, _ => none
 | k + 1, x0, x1, x5, x6 => if x6 < (x0.length : Int) then (r2_Product.l1 k x0 x1 x5 x6 0 0) else ((r2_trim.f k x5).bind fun t402 => (some t402))
def r2_Product.l1 : Nat → List Int → List Int → List Int → Int → Int → Int → Option (List Int)
 | 0, _, _, _, _, _, _ => none
 | k + 1, x0, x1, x5, x6, x7, x8 => if x8 < (x1.length : Int) then (if 0 ≤ (wrap64 (x6 + x8)) then (if (wrap64 (x6 + x8)) < (x5.length : Int) then (if 0 ≤ x6 then (if x6 < (x0.length : Int) then (if 0 ≤ x8 then (r2_Product.l1 k x0 x1 (x5.set ((wrap64 (x6 + x8)) : Int).toNat (Go.bits .and .u32 ((((x7 + (rd x5 (wrap64 (x6 + x8))))) + (((rd x0 x6) * (rd x1 x8)))) % 4294967296) 65535)) x6 (((((x7 + (rd x5 (wrap64 (x6 + x8))))) + (((rd x0 x6) * (rd x1 x8)))) % 4294967296) / 65536) (wrap64 (x8 + 1))) else (none)) else (none)) else (none)) else (none)) else (none)) else (if 0 ≤ (wrap64 (x6 + (x1.length : Int))) then (if (wrap64 (x6 + (x1.length : Int))) < (x5.length : Int) then (r2_Product.l0 k x0 x1 (x5.set ((wrap64 (x6 + (x1.length : Int))) : Int).toNat (((rd x5 (wrap64 (x6 + (x1.length : Int)))) + x7) % 4294967296)) (wrap64 (x6 + 1))) else (none)) else (none))
end
def r2_Product.f (k : Nat) (l0 : List Int) (l1 : List Int) : Option (List Int) := if 0 ≤ (wrap64 ((wrap64 ((l0.length : Int) + (l1.length : Int))) + 1)) then (if (wrap64 ((wrap64 ((l0.length : Int) + (l1.length : Int))) + 1) : Int).toNat ≤ 70368744177664 then (r2_Product.l0 k l0 l1 (List.replicate (wrap64 ((wrap64 ((l0.length : Int) + (l1.length : Int))) + 1) : Int).toNat 0) 0) else (none)) else (none)
theorem r2_Product.mono_l : ∀ k, (∀ y0 y1 y2 y3, LeO (r2_Product.l0 k y0 y1 y2 y3) (r2_Product.l0 (k + 1) y0 y1 y2 y3)) ∧ (∀ y0 y1 y2 y3 y4 y5, LeO (r2_Product.l1 k y0 y1 y2 y3 y4 y5) (r2_Product.l1 (k + 1) y0 y1 y2 y3 y4 y5))
 | 0 => ⟨fun _ _ _ _ r h => by simp [r2_Product.l0] at h, fun _ _ _ _ _ _ r h => by simp [r2_Product.l1] at h⟩
 | k + 1 => by
  obtain ⟨ih0, ih1⟩ := r2_Product.mono_l k
  refine ⟨?_, ?_⟩
  ·intro y0 y1 y2 y3
   unfold r2_Product.l0
   repeat' first | (with_reducible first | apply ih0 | apply ih1 | apply r2_trim.mono | apply LeO.refl | apply LeO.none | refine LeO.ite ?_ ?_ | refine LeO.bind ?_ (fun _ => ?_)) | apply LeO.none | refine LeO.ite ?_ ?_ | refine LeO.bind ?_ (fun _ => ?_)
  intro y0 y1 y2 y3 y4 y5
  unfold r2_Product.l1
  repeat' first | (with_reducible first | apply ih0 | apply ih1 | apply r2_trim.mono | apply LeO.refl | apply LeO.none | refine LeO.ite ?_ ?_ | refine LeO.bind ?_ (fun _ => ?_)) | apply LeO.none | refine LeO.ite ?_ ?_ | refine LeO.bind ?_ (fun _ => ?_)
theorem r2_Product.mono : ∀ a0 a1 k, LeO (r2_Product.f k a0 a1) (r2_Product.f (k + 1) a0 a1) := by
 intro a0 a1 k
 obtain ⟨ih0, ih1⟩ := r2_Product.mono_l k
 unfold r2_Product.f
 repeat' first | (with_reducible first | apply ih0 | apply ih1 | apply r2_trim.mono | apply LeO.refl | apply LeO.none | refine LeO.ite ?_ ?_ | refine LeO.bind ?_ (fun _ => ?_)) | apply LeO.none | refine LeO.ite ?_ ?_ | refine LeO.bind ?_ (fun _ => ?_)
theorem r2_Product.calls (k : Nat) (A0 : Option Addr) (c0 : Nat) (l0 : List Int) (A1 : Option Addr) (c1 : Nat) (l1 : List Int) (r : List Int) (w : World) (hr0 : Kd.C (Kd.int .u32) w A0 l0.length l0) (hc0 : l0.length ≤ c0) (hr1 : Kd.C (Kd.int .u32) w A1 l1.length l1) (hc1 : l1.length ≤ c1) (h : r2_Product.f k l0 l1 = some r) :
  Calls Tryz.prog 63 #[.slice A0 l0.length c0, .slice A1 l1.length c1] w fun e w' => ∃ v0_ : Value, e = .returned (v0_) ∧ Kd.R (Kd.int .u32) 83 w' w.heap.size (fun _ => True) v0_ r ∧ Below w.heap.size w w' := by
 have HR0 := Sd.mk hr0
 have HC0 := Sd.mk hc0
 clear hr0 hc0
 have HR1 := Sd.mk hr1
 have HC1 := Sd.mk hc1
 clear hr1 hc1
 have HB := Sd.mk (Below.refl w.heap.size w)
 have H : (if 0 ≤ (wrap64 ((wrap64 ((l0.length : Int) + (l1.length : Int))) + 1)) then (if (wrap64 ((wrap64 ((l0.length : Int) + (l1.length : Int))) + 1) : Int).toNat ≤ 70368744177664 then (r2_Product.l0 k l0 l1 (List.replicate (wrap64 ((wrap64 ((l0.length : Int) + (l1.length : Int))) + 1) : Int).toNat 0) 0) else (none)) else (none)) = some r := h
 clear h
 obtain ⟨ji3, hji3⟩ : ∃ j_ : Int, (wrap64 ((wrap64 ((l0.length : Int) + (l1.length : Int))) + 1)) = j_ := ⟨_, rfl⟩
 replace H : (if 0 ≤ (ji3) then (if (ji3 : Int).toNat ≤ 70368744177664 then (r2_Product.l0 k l0 l1 (List.replicate (ji3 : Int).toNat 0) 0) else (none)) else (none)) = some r := by first | (rw [hji3] at H; exact H) | (simp only [hji3] at H ⊢; exact H)
 have hji3w : (IntKind.i64.wrap ((wrap64 ((l0.length : Int) + (l1.length : Int))) + 1)) = ji3 := (i64_w _).trans hji3
 by_cases c4 : 0 ≤ (ji3)
 case neg => rw [if_neg c4] at H; exact absurd H (by simp)
 rw [if_pos c4] at H
 have c4b0 := eq_true c4
 have c4b1 := decide_eq_true c4
 clear c4
 by_cases c5 : (ji3 : Int).toNat ≤ 70368744177664
 case neg => rw [if_neg c5] at H; exact absurd H (by simp)
 rw [if_pos c5] at H
 have c5b0 := eq_true c5
 have c5b1 := decide_eq_true c5
 clear c5
 obtain ⟨y399, hy399⟩ : ∃ y_ : List Int, y_ = (List.replicate (ji3 : Int).toNat 0) := ⟨_, rfl⟩
 replace H : (r2_Product.l0 k l0 l1 y399 0) = some r := by first | (rw [hy399]; with_reducible exact H) | (have H2_ := (Option.bind_some _ _).symm.trans H; rw [hy399]; with_reducible exact H2_) | (have H2_ := (Option.bind_some _ _).symm.trans H; with_reducible exact H2_) | with_reducible exact H | (rw [hy399]; exact H) | exact H
 have Ny399 := Sd.mk hy399
 clear hy399
 have H' := Sd.mk H
 clear H
 go_enter Tryz.func63, Tryz.ntmps63
 go_wp2_with (first | ((with_reducible refine gds (N := 15) rfl ?_); refine Kd.R_make (Kd.int .u32) _ 83 rfl (N := 15) rfl 71 _ _ rfl ji3 rfl rfl Tryz.underlying71 (.int .u32 0) 4 info83 rfl (by decide) (by omega) 0 (ok := fun _ => True) (okp := fun _ => True) rfl (fun _ hk => hk) trivial sqD (Nat.le_trans (Nat.mul_le_mul_right _ (sqD : ji3.toNat ≤ 70368744177664)) (by omega)) (Below.refl _ _) (Nat.le_refl _) ?_; intro v400 w6 ho7 hb hg_ hnew_; clear hg_ hnew_; (first | rw [← Ny399.out] at ho7 | (simp only [Int.reduceToNat] at ho7; rw [← Ny399.out] at ho7)); have n0_ := Sd.mk (Kd.R_lower ho7 (bsz sqB)); have n1_ := Sd.mk (bst sqB hb); clear HB; have HO401 := n0_; have HB := n1_; clear n0_ n1_; clear hb ho7))
 repeat (go_quiet (first | ((with_reducible refine gds (N := 15) rfl ?_); refine Kd.R_make (Kd.int .u32) _ 83 rfl (N := 15) rfl 71 _ _ rfl ji3 rfl rfl Tryz.underlying71 (.int .u32 0) 4 info83 rfl (by decide) (by omega) 0 (ok := fun _ => True) (okp := fun _ => True) rfl (fun _ hk => hk) trivial sqD (Nat.le_trans (Nat.mul_le_mul_right _ (sqD : ji3.toNat ≤ 70368744177664)) (by omega)) (Below.refl _ _) (Nat.le_refl _) ?_; intro v400 w6 ho7 hb hg_ hnew_; clear hg_ hnew_; (first | rw [← Ny399.out] at ho7 | (simp only [Int.reduceToNat] at ho7; rw [← Ny399.out] at ho7)); have n0_ := Sd.mk (Kd.R_lower ho7 (bsz sqB)); have n1_ := Sd.mk (bst sqB hb); clear HB; have HO401 := n0_; have HB := n1_; clear n0_ n1_; clear hb ho7)); try go_wp2_with (first | ((with_reducible refine gds (N := 15) rfl ?_); refine Kd.R_make (Kd.int .u32) _ 83 rfl (N := 15) rfl 71 _ _ rfl ji3 rfl rfl Tryz.underlying71 (.int .u32 0) 4 info83 rfl (by decide) (by omega) 0 (ok := fun _ => True) (okp := fun _ => True) rfl (fun _ hk => hk) trivial sqD (Nat.le_trans (Nat.mul_le_mul_right _ (sqD : ji3.toNat ≤ 70368744177664)) (by omega)) (Below.refl _ _) (Nat.le_refl _) ?_; intro v400 w6 ho7 hb hg_ hnew_; clear hg_ hnew_; (first | rw [← Ny399.out] at ho7 | (simp only [Int.reduceToNat] at ho7; rw [← Ny399.out] at ho7)); have n0_ := Sd.mk (Kd.R_lower ho7 (bsz sqB)); have n1_ := Sd.mk (bst sqB hb); clear HB; have HO401 := n0_; have HB := n1_; clear n0_ n1_; clear hb ho7)))
 try simp only [Act.put, List.setIfInBounds_toArray, List.set_cons_zero, List.set_cons_succ]
 go_loopg [6] k (fun kq v6 w' => ∃ (x5_1 : List Int) (x6_1 : Int), v6 = .int .i64 x6_1 ∧ Sd (r2_Product.l0 kq l0 l1 x5_1 x6_1 = some r) ∧ Sd (kq ≤ k) ∧ Sd (Kd.R (Kd.int .u32) 83 w' w.heap.size (fun _ => True) v400 x5_1) ∧ Sd (Below w.heap.size w w'))
 case atStart => exact ⟨(y399), (0), sqE, H', ⟨Nat.le_refl _⟩, ⟨sqR HO401.out⟩, ⟨sqB⟩⟩
 case round =>
  clear H'
  try clear c1
  try clear p2
  try clear c4
  try clear c4b0
  try clear c4b1
  try clear c5
  try clear c5b0
  try clear c5b1
  try clear c6
  try clear p6
  obtain ⟨x5_1, x6_1, rfl, HA, HK1, HO_5, HB⟩ := hrel
  cases gk with
  | zero => exact absurd HA.out (by simp [r2_Product.l0])
  | succ k1 =>
   have H := HA.out
   clear HA
   simp only [r2_Product.l0] at H
   by_cases c8 : x6_1 < (l0.length : Int)
   case neg =>
    rw [if_neg c8] at H
    have c8b0 := decide_eq_false c8
    clear c8
    obtain ⟨t402, A27, H⟩ := sqO H
    try dsimp only at H
    obtain rfl := Option.some.inj H
    obtain ⟨Ao28, co28, eo28⟩ := Kd.R_slice HO_5.out
    subst eo28
    go_wp2_with (first | (go_at_call 89; (with_reducible refine (r2_trim.calls k1 (fun k_ => some k_ = (.slice Ao28 x5_1.length co28 : Value).ownBlock) (.slice Ao28 x5_1.length co28) x5_1 t402 w _ ?side1 ?side2 A27.out).mono ?_); (case side1 => repeat (first | (with_reducible first | exact HB.out | apply below_alloc | apply pw_below_drewN | apply below_drew1) | exact HB.out)); (case side2 => exact Kd.R_tight rfl HO_5.out); rintro e w29 ⟨v403, rfl, ho0, hb, hkp⟩; have n0_ := Sd.mk (Kd.R_mono (ok' := fun k_ => True) ho0 (fun k_ hk_ => trivial)); have n1_ := Sd.mk (hb); clear HB; clear HO_5; have HO404 := n0_; have HB := n1_; clear n0_ n1_; (try clear hb); (try clear hkp); (try clear ho0)))
    repeat (go_quiet (first | (go_at_call 89; (with_reducible refine (r2_trim.calls k1 (fun k_ => some k_ = (.slice Ao28 x5_1.length co28 : Value).ownBlock) (.slice Ao28 x5_1.length co28) x5_1 t402 w _ ?side1 ?side2 A27.out).mono ?_); (case side1 => repeat (first | (with_reducible first | exact HB.out | apply below_alloc | apply pw_below_drewN | apply below_drew1) | exact HB.out)); (case side2 => exact Kd.R_tight rfl HO_5.out); rintro e w29 ⟨v403, rfl, ho0, hb, hkp⟩; have n0_ := Sd.mk (Kd.R_mono (ok' := fun k_ => True) ho0 (fun k_ hk_ => trivial)); have n1_ := Sd.mk (hb); clear HB; clear HO_5; have HO404 := n0_; have HB := n1_; clear n0_ n1_; (try clear hb); (try clear hkp); (try clear ho0))); try go_wp2_with (first | (go_at_call 89; (with_reducible refine (r2_trim.calls k1 (fun k_ => some k_ = (.slice Ao28 x5_1.length co28 : Value).ownBlock) (.slice Ao28 x5_1.length co28) x5_1 t402 w _ ?side1 ?side2 A27.out).mono ?_); (case side1 => repeat (first | (with_reducible first | exact HB.out | apply below_alloc | apply pw_below_drewN | apply below_drew1) | exact HB.out)); (case side2 => exact Kd.R_tight rfl HO_5.out); rintro e w29 ⟨v403, rfl, ho0, hb, hkp⟩; have n0_ := Sd.mk (Kd.R_mono (ok' := fun k_ => True) ho0 (fun k_ hk_ => trivial)); have n1_ := Sd.mk (hb); clear HB; clear HO_5; have HO404 := n0_; have HB := n1_; clear n0_ n1_; (try clear hb); (try clear hkp); (try clear ho0))))
    go_ret
    exact ⟨_, by first | rfl | (simp [errW_none, errW_some] <;> rfl) | (simp only [← hji3]; first | rfl | (simp [errW_none, errW_some] <;> rfl)) | (simp [*, errW_none, errW_some] <;> rfl), sqR HO404.out, sqB⟩
   rw [if_pos c8] at H
   have c8b0 := decide_eq_true c8
   clear c8
   have H' := Sd.mk H
   clear H
   go_wp2
   repeat (go_quiet (fail); try go_wp2)
   go_loopg [7, 8] k1 (fun kq v7 v8 w' => ∃ (x5_2 : List Int) (x7_2 : Int) (x8_2 : Int), v7 = .int .u32 x7_2 ∧ v8 = .int .i64 x8_2 ∧ Sd (r2_Product.l1 kq l0 l1 x5_2 x6_1 x7_2 x8_2 = some r) ∧ Sd (kq ≤ k1) ∧ Sd (Kd.R (Kd.int .u32) 83 w' w.heap.size (fun _ => True) v400 x5_2) ∧ Sd (Below w.heap.size w w'))
   case atStart => exact ⟨(x5_1), (0), (0), sqE, sqE, H', ⟨Nat.le_refl _⟩, ⟨sqR HO_5.out⟩, ⟨sqB⟩⟩
   case round =>
    clear H'
    try clear c1
    try clear p2
    try clear c4
    try clear c4b0
    try clear c4b1
    try clear c5
    try clear c5b0
    try clear c5b1
    try clear c6
    try clear p6
    try clear c8
    try clear c8b0
    try clear p2
    try clear p6
    obtain ⟨x5_2, x7_2, x8_2, rfl, rfl, HA, HK2, HO_5, HB⟩ := hrel
    cases gk with
    | zero => exact absurd HA.out (by simp [r2_Product.l1])
    | succ k2 =>
     have H := HA.out
     clear HA
     simp only [r2_Product.l1] at H
     by_cases c9 : x8_2 < (l1.length : Int)
     case neg =>
      rw [if_neg c9] at H
      have c9b0 := decide_eq_false c9
      clear c9
      obtain ⟨ji20, hji20⟩ : ∃ j_ : Int, (wrap64 (x6_1 + (l1.length : Int))) = j_ := ⟨_, rfl⟩
      replace H : (if 0 ≤ (ji20) then (if (ji20) < (x5_2.length : Int) then (r2_Product.l0 k2 l0 l1 (x5_2.set ((ji20) : Int).toNat (((rd x5_2 (ji20)) + x7_2) % 4294967296)) (wrap64 (x6_1 + 1))) else (none)) else (none)) = some r := by first | (rw [hji20] at H; exact H) | (simp only [hji20] at H ⊢; exact H)
      have hji20w : (IntKind.i64.wrap (x6_1 + (l1.length : Int))) = ji20 := (i64_w _).trans hji20
      by_cases c21 : 0 ≤ (ji20)
      case neg => rw [if_neg c21] at H; exact absurd H (by simp)
      rw [if_pos c21] at H
      have c21b0 := decide_eq_true c21
      clear c21
      by_cases c22 : (ji20) < (x5_2.length : Int)
      case neg => rw [if_neg c22] at H; exact absurd H (by simp)
      rw [if_pos c22] at H
      have c22b0 := decide_eq_true c22
      clear c22
      obtain ⟨y410, hy410⟩ : ∃ y_ : List Int, y_ = (x5_2.set ((ji20) : Int).toNat (((rd x5_2 (ji20)) + x7_2) % 4294967296)) := ⟨_, rfl⟩
      replace H : (r2_Product.l0 k2 l0 l1 y410 (wrap64 (x6_1 + 1))) = some r := by first | (rw [hy410]; with_reducible exact H) | (have H2_ := (Option.bind_some _ _).symm.trans H; rw [hy410]; with_reducible exact H2_) | (have H2_ := (Option.bind_some _ _).symm.trans H; with_reducible exact H2_) | with_reducible exact H | (rw [hy410]; exact H) | exact H
      have Ny410 := Sd.mk hy410
      clear hy410
      have H' := Sd.mk H
      clear H
      obtain ⟨Ao24, co24, eo24⟩ := Kd.R_slice HO_5.out
      subst eo24
      have p409 : 0 ≤ ((ji20) : Int) := sqD
      have q409 : (ji20) < (x5_2.length : Int) := sqD
      obtain ⟨ad409, e409, hx409_0⟩ := Kd.at_int (Kd.R_reads' HO_5.out).2.2 (ji20) p409 q409
      cases e409
      replace p409 := eq_true p409
      replace q409 := eq_true q409
      have p23 : 0 ≤ ((ji20) : Int) := sqD
      have q23 : ((ji20) : Int) < ((x5_2.length : Int) : Int) := sqD
      obtain ⟨go23, co23, eo23, gb23, gl23, cl23, HG23⟩ := Kd.R_form HO_5.out (by omega)
      (first | cases eo23 | (injection eo23 with ea_ en_ ec_; (first | subst ea_ | (injection ea_ with ea_; subst ea_)); subst ec_; clear en_))
      have GB23 := Sd.mk gb23
      have GG23 := Sd.mk HG23
      clear gb23 gl23 HG23
      (first | simp only [add_plain] at hx409_0 | skip)
      obtain ⟨hx23_0, hf23_0⟩ := Kd.R_celln 0 HO_5.out ((ji20) : Int) p23 q23
      replace p23 := eq_true p23
      replace q23 := eq_true q23
      have HP25 := Kd.R_putg HO_5.out ((ji20) : Int) (((rd x5_2 (ji20)) + x7_2) % 4294967296)
      go_wp2_with (first | ((with_reducible refine gst (t := 83) (p := 69) rfl ?_); (try (rw [drewN_self wr]; generalize hq_ : World.drewN wr _ = wr; have n0_ := Sd.mk (Kd.R_at hq_ HO_5.out); have n1_ := Sd.mk (below_at hq_ HB.out); clear hq_ HO_5 HB; have HO_5 := n0_; have HB := n1_; clear n0_ n1_; (try (obtain ⟨hx23_0, hf23_0⟩ := Kd.R_celln 0 HO_5.out ((ji20) : Int) (of_eq_true p23) (of_eq_true q23))); (try (have HP25 := Kd.R_putg HO_5.out ((ji20) : Int) (((rd x5_2 (ji20)) + x7_2) % 4294967296))))); refine store_event (t := 83) (p := 69) (v := ?vo_w26) (w1 := (wr.setCell ⟨go23, ((ji20) : Int).toNat, none⟩ (.int .u32 (((rd x5_2 (ji20)) + x7_2) % 4294967296)))) ?hg ?ho ?hn ?hr ?_; (case ho => rfl); (case hg => rfl); (case hn => rfl); (case hr => first | (go_simp; done) | (go_simp; rfl)); intro w26 hw; have hg : wr.grownBy w26 (some go23) := (by rw [hw]; exact HP25.2); have hp_ : Kd.R (Kd.int .u32) 83 w26 w.heap.size (fun _ => True) (.slice (some ⟨go23, 0, none⟩) x5_2.length co24) y410 := (by rw [hw, Ny410.out]; exact HP25.1); clear HP25; have n0_ := Sd.mk (hp_); have n1_ := Sd.mk ((by rw [hw]; exact below_set (HB.out) GB23.out : Below w.heap.size w w26)); clear HO_5; clear HB; have HO_5 := n0_; have HB := n1_; clear n0_ n1_; clear hg hw hp_))
      repeat (go_quiet (first | ((with_reducible refine gst (t := 83) (p := 69) rfl ?_); (try (rw [drewN_self wr]; generalize hq_ : World.drewN wr _ = wr; have n0_ := Sd.mk (Kd.R_at hq_ HO_5.out); have n1_ := Sd.mk (below_at hq_ HB.out); clear hq_ HO_5 HB; have HO_5 := n0_; have HB := n1_; clear n0_ n1_; (try (obtain ⟨hx23_0, hf23_0⟩ := Kd.R_celln 0 HO_5.out ((ji20) : Int) (of_eq_true p23) (of_eq_true q23))); (try (have HP25 := Kd.R_putg HO_5.out ((ji20) : Int) (((rd x5_2 (ji20)) + x7_2) % 4294967296))))); refine store_event (t := 83) (p := 69) (v := ?vo_w26) (w1 := (wr.setCell ⟨go23, ((ji20) : Int).toNat, none⟩ (.int .u32 (((rd x5_2 (ji20)) + x7_2) % 4294967296)))) ?hg ?ho ?hn ?hr ?_; (case ho => rfl); (case hg => rfl); (case hn => rfl); (case hr => first | (go_simp; done) | (go_simp; rfl)); intro w26 hw; have hg : wr.grownBy w26 (some go23) := (by rw [hw]; exact HP25.2); have hp_ : Kd.R (Kd.int .u32) 83 w26 w.heap.size (fun _ => True) (.slice (some ⟨go23, 0, none⟩) x5_2.length co24) y410 := (by rw [hw, Ny410.out]; exact HP25.1); clear HP25; have n0_ := Sd.mk (hp_); have n1_ := Sd.mk ((by rw [hw]; exact below_set (HB.out) GB23.out : Below w.heap.size w w26)); clear HO_5; clear HB; have HO_5 := n0_; have HB := n1_; clear n0_ n1_; clear hg hw hp_)); try go_wp2_with (first | ((with_reducible refine gst (t := 83) (p := 69) rfl ?_); (try (rw [drewN_self wr]; generalize hq_ : World.drewN wr _ = wr; have n0_ := Sd.mk (Kd.R_at hq_ HO_5.out); have n1_ := Sd.mk (below_at hq_ HB.out); clear hq_ HO_5 HB; have HO_5 := n0_; have HB := n1_; clear n0_ n1_; (try (obtain ⟨hx23_0, hf23_0⟩ := Kd.R_celln 0 HO_5.out ((ji20) : Int) (of_eq_true p23) (of_eq_true q23))); (try (have HP25 := Kd.R_putg HO_5.out ((ji20) : Int) (((rd x5_2 (ji20)) + x7_2) % 4294967296))))); refine store_event (t := 83) (p := 69) (v := ?vo_w26) (w1 := (wr.setCell ⟨go23, ((ji20) : Int).toNat, none⟩ (.int .u32 (((rd x5_2 (ji20)) + x7_2) % 4294967296)))) ?hg ?ho ?hn ?hr ?_; (case ho => rfl); (case hg => rfl); (case hn => rfl); (case hr => first | (go_simp; done) | (go_simp; rfl)); intro w26 hw; have hg : wr.grownBy w26 (some go23) := (by rw [hw]; exact HP25.2); have hp_ : Kd.R (Kd.int .u32) 83 w26 w.heap.size (fun _ => True) (.slice (some ⟨go23, 0, none⟩) x5_2.length co24) y410 := (by rw [hw, Ny410.out]; exact HP25.1); clear HP25; have n0_ := Sd.mk (hp_); have n1_ := Sd.mk ((by rw [hw]; exact below_set (HB.out) GB23.out : Below w.heap.size w w26)); clear HO_5; clear HB; have HO_5 := n0_; have HB := n1_; clear n0_ n1_; clear hg hw hp_)))
      go_roundg k2
      case measure => have := HK1.out; have := HK2.out; omega
      case rel => exact ⟨(y410), (wrap64 (x6_1 + 1)), sqE, H', ⟨by have := HK1.out; have := HK2.out; omega⟩, ⟨sqR HO_5.out⟩, ⟨sqB⟩⟩
     rw [if_pos c9] at H
     have c9b0 := decide_eq_true c9
     clear c9
     obtain ⟨ji10, hji10⟩ : ∃ j_ : Int, (wrap64 (x6_1 + x8_2)) = j_ := ⟨_, rfl⟩
     replace H : (if 0 ≤ (ji10) then (if (ji10) < (x5_2.length : Int) then (if 0 ≤ x6_1 then (if x6_1 < (l0.length : Int) then (if 0 ≤ x8_2 then (r2_Product.l1 k2 l0 l1 (x5_2.set ((ji10) : Int).toNat (Go.bits .and .u32 ((((x7_2 + (rd x5_2 (ji10)))) + (((rd l0 x6_1) * (rd l1 x8_2)))) % 4294967296) 65535)) x6_1 (((((x7_2 + (rd x5_2 (ji10)))) + (((rd l0 x6_1) * (rd l1 x8_2)))) % 4294967296) / 65536) (wrap64 (x8_2 + 1))) else (none)) else (none)) else (none)) else (none)) else (none)) = some r := by first | (rw [hji10] at H; exact H) | (simp only [hji10] at H ⊢; exact H)
     have hji10w : (IntKind.i64.wrap (x6_1 + x8_2)) = ji10 := (i64_w _).trans hji10
     by_cases c11 : 0 ≤ (ji10)
     case neg => rw [if_neg c11] at H; exact absurd H (by simp)
     rw [if_pos c11] at H
     have c11b0 := decide_eq_true c11
     clear c11
     by_cases c12 : (ji10) < (x5_2.length : Int)
     case neg => rw [if_neg c12] at H; exact absurd H (by simp)
     rw [if_pos c12] at H
     have c12b0 := decide_eq_true c12
     clear c12
     by_cases c13 : 0 ≤ x6_1
     case neg => rw [if_neg c13] at H; exact absurd H (by simp)
     rw [if_pos c13] at H
     have c13b0 := decide_eq_true c13
     clear c13
     by_cases c14 : x6_1 < (l0.length : Int)
     case neg => rw [if_neg c14] at H; exact absurd H (by simp)
     rw [if_pos c14] at H
     have c14b0 := decide_eq_true c14
     clear c14
     by_cases c15 : 0 ≤ x8_2
     case neg => rw [if_neg c15] at H; exact absurd H (by simp)
     rw [if_pos c15] at H
     have c15b0 := decide_eq_true c15
     clear c15
     obtain ⟨y408, hy408⟩ : ∃ y_ : List Int, y_ = (x5_2.set ((ji10) : Int).toNat (Go.bits .and .u32 ((((x7_2 + (rd x5_2 (ji10)))) + (((rd l0 x6_1) * (rd l1 x8_2)))) % 4294967296) 65535)) := ⟨_, rfl⟩
     replace H : (r2_Product.l1 k2 l0 l1 y408 x6_1 (((((x7_2 + (rd x5_2 (ji10)))) + (((rd l0 x6_1) * (rd l1 x8_2)))) % 4294967296) / 65536) (wrap64 (x8_2 + 1))) = some r := by first | (rw [hy408]; with_reducible exact H) | (have H2_ := (Option.bind_some _ _).symm.trans H; rw [hy408]; with_reducible exact H2_) | (have H2_ := (Option.bind_some _ _).symm.trans H; with_reducible exact H2_) | with_reducible exact H | (rw [hy408]; exact H) | exact H
     have Ny408 := Sd.mk hy408
     clear hy408
     have H' := Sd.mk H
     clear H
     obtain ⟨Ao17, co17, eo17⟩ := Kd.R_slice HO_5.out
     subst eo17
     have p405 : 0 ≤ ((ji10) : Int) := sqD
     have q405 : (ji10) < (x5_2.length : Int) := sqD
     obtain ⟨ad405, e405, hx405_0⟩ := Kd.at_int (Kd.R_reads' HO_5.out).2.2 (ji10) p405 q405
     cases e405
     replace p405 := eq_true p405
     replace q405 := eq_true q405
     have p406 : 0 ≤ (x6_1 : Int) := sqD
     have q406 : x6_1 < (l0.length : Int) := sqD
     obtain ⟨ad406, e406, hx406_0⟩ := Kd.at_int HR0.out x6_1 p406 q406
     cases e406
     replace hx406_0 := (HB.out.cell (World.block_lt_of_cell? w _ hx406_0)).trans hx406_0
     replace p406 := eq_true p406
     replace q406 := eq_true q406
     have p407 : 0 ≤ (x8_2 : Int) := sqD
     have q407 : x8_2 < (l1.length : Int) := sqD
     obtain ⟨ad407, e407, hx407_0⟩ := Kd.at_int HR1.out x8_2 p407 q407
     cases e407
     replace hx407_0 := (HB.out.cell (World.block_lt_of_cell? w _ hx407_0)).trans hx407_0
     replace p407 := eq_true p407
     replace q407 := eq_true q407
     have p16 : 0 ≤ ((ji10) : Int) := sqD
     have q16 : ((ji10) : Int) < ((x5_2.length : Int) : Int) := sqD
     obtain ⟨go16, co16, eo16, gb16, gl16, cl16, HG16⟩ := Kd.R_form HO_5.out (by omega)
     (first | cases eo16 | (injection eo16 with ea_ en_ ec_; (first | subst ea_ | (injection ea_ with ea_; subst ea_)); subst ec_; clear en_))
     have GB16 := Sd.mk gb16
     have GG16 := Sd.mk HG16
     clear gb16 gl16 HG16
     (first | simp only [add_plain] at hx405_0 | skip)
     obtain ⟨hx16_0, hf16_0⟩ := Kd.R_celln 0 HO_5.out ((ji10) : Int) p16 q16
     replace p16 := eq_true p16
     replace q16 := eq_true q16
     have HP18 := Kd.R_putg HO_5.out ((ji10) : Int) (Go.bits .and .u32 ((((x7_2 + (rd x5_2 (ji10)))) + (((rd l0 x6_1) * (rd l1 x8_2)))) % 4294967296) 65535)
     go_wp2_with (first | ((with_reducible refine gst (t := 83) (p := 52) rfl ?_); (try (rw [drewN_self wr]; generalize hq_ : World.drewN wr _ = wr; have n0_ := Sd.mk (Kd.R_at hq_ HO_5.out); have n1_ := Sd.mk (below_at hq_ HB.out); clear hq_ HO_5 HB; have HO_5 := n0_; have HB := n1_; clear n0_ n1_; (try (obtain ⟨hx16_0, hf16_0⟩ := Kd.R_celln 0 HO_5.out ((ji10) : Int) (of_eq_true p16) (of_eq_true q16))); (try (have HP18 := Kd.R_putg HO_5.out ((ji10) : Int) (Go.bits .and .u32 ((((x7_2 + (rd x5_2 (ji10)))) + (((rd l0 x6_1) * (rd l1 x8_2)))) % 4294967296) 65535))))); refine store_event (t := 83) (p := 52) (v := ?vo_w19) (w1 := (wr.setCell ⟨go16, ((ji10) : Int).toNat, none⟩ (.int .u32 (Go.bits .and .u32 ((((x7_2 + (rd x5_2 (ji10)))) + (((rd l0 x6_1) * (rd l1 x8_2)))) % 4294967296) 65535)))) ?hg ?ho ?hn ?hr ?_; (case ho => rfl); (case hg => rfl); (case hn => rfl); (case hr => first | (go_simp; done) | (go_simp; rfl)); intro w19 hw; have hg : wr.grownBy w19 (some go16) := (by rw [hw]; exact HP18.2); have hp_ : Kd.R (Kd.int .u32) 83 w19 w.heap.size (fun _ => True) (.slice (some ⟨go16, 0, none⟩) x5_2.length co17) y408 := (by rw [hw, Ny408.out]; exact HP18.1); clear HP18; have n0_ := Sd.mk (hp_); have n1_ := Sd.mk ((by rw [hw]; exact below_set (HB.out) GB16.out : Below w.heap.size w w19)); clear HO_5; clear HB; have HO_5 := n0_; have HB := n1_; clear n0_ n1_; clear hg hw hp_))
     repeat (go_quiet (first | ((with_reducible refine gst (t := 83) (p := 52) rfl ?_); (try (rw [drewN_self wr]; generalize hq_ : World.drewN wr _ = wr; have n0_ := Sd.mk (Kd.R_at hq_ HO_5.out); have n1_ := Sd.mk (below_at hq_ HB.out); clear hq_ HO_5 HB; have HO_5 := n0_; have HB := n1_; clear n0_ n1_; (try (obtain ⟨hx16_0, hf16_0⟩ := Kd.R_celln 0 HO_5.out ((ji10) : Int) (of_eq_true p16) (of_eq_true q16))); (try (have HP18 := Kd.R_putg HO_5.out ((ji10) : Int) (Go.bits .and .u32 ((((x7_2 + (rd x5_2 (ji10)))) + (((rd l0 x6_1) * (rd l1 x8_2)))) % 4294967296) 65535))))); refine store_event (t := 83) (p := 52) (v := ?vo_w19) (w1 := (wr.setCell ⟨go16, ((ji10) : Int).toNat, none⟩ (.int .u32 (Go.bits .and .u32 ((((x7_2 + (rd x5_2 (ji10)))) + (((rd l0 x6_1) * (rd l1 x8_2)))) % 4294967296) 65535)))) ?hg ?ho ?hn ?hr ?_; (case ho => rfl); (case hg => rfl); (case hn => rfl); (case hr => first | (go_simp; done) | (go_simp; rfl)); intro w19 hw; have hg : wr.grownBy w19 (some go16) := (by rw [hw]; exact HP18.2); have hp_ : Kd.R (Kd.int .u32) 83 w19 w.heap.size (fun _ => True) (.slice (some ⟨go16, 0, none⟩) x5_2.length co17) y408 := (by rw [hw, Ny408.out]; exact HP18.1); clear HP18; have n0_ := Sd.mk (hp_); have n1_ := Sd.mk ((by rw [hw]; exact below_set (HB.out) GB16.out : Below w.heap.size w w19)); clear HO_5; clear HB; have HO_5 := n0_; have HB := n1_; clear n0_ n1_; clear hg hw hp_)); try go_wp2_with (first | ((with_reducible refine gst (t := 83) (p := 52) rfl ?_); (try (rw [drewN_self wr]; generalize hq_ : World.drewN wr _ = wr; have n0_ := Sd.mk (Kd.R_at hq_ HO_5.out); have n1_ := Sd.mk (below_at hq_ HB.out); clear hq_ HO_5 HB; have HO_5 := n0_; have HB := n1_; clear n0_ n1_; (try (obtain ⟨hx16_0, hf16_0⟩ := Kd.R_celln 0 HO_5.out ((ji10) : Int) (of_eq_true p16) (of_eq_true q16))); (try (have HP18 := Kd.R_putg HO_5.out ((ji10) : Int) (Go.bits .and .u32 ((((x7_2 + (rd x5_2 (ji10)))) + (((rd l0 x6_1) * (rd l1 x8_2)))) % 4294967296) 65535))))); refine store_event (t := 83) (p := 52) (v := ?vo_w19) (w1 := (wr.setCell ⟨go16, ((ji10) : Int).toNat, none⟩ (.int .u32 (Go.bits .and .u32 ((((x7_2 + (rd x5_2 (ji10)))) + (((rd l0 x6_1) * (rd l1 x8_2)))) % 4294967296) 65535)))) ?hg ?ho ?hn ?hr ?_; (case ho => rfl); (case hg => rfl); (case hn => rfl); (case hr => first | (go_simp; done) | (go_simp; rfl)); intro w19 hw; have hg : wr.grownBy w19 (some go16) := (by rw [hw]; exact HP18.2); have hp_ : Kd.R (Kd.int .u32) 83 w19 w.heap.size (fun _ => True) (.slice (some ⟨go16, 0, none⟩) x5_2.length co17) y408 := (by rw [hw, Ny408.out]; exact HP18.1); clear HP18; have n0_ := Sd.mk (hp_); have n1_ := Sd.mk ((by rw [hw]; exact below_set (HB.out) GB16.out : Below w.heap.size w w19)); clear HO_5; clear HB; have HO_5 := n0_; have HB := n1_; clear n0_ n1_; clear hg hw hp_)))
     go_roundg k2
     case measure => have := HK1.out; have := HK2.out; omega
     case rel => exact ⟨(y408), (((((x7_2 + (rd x5_2 (ji10)))) + (((rd l0 x6_1) * (rd l1 x8_2)))) % 4294967296) / 65536), (wrap64 (x8_2 + 1)), (by first | rfl | (simp; done) | (simp only [← hji10] <;> (first | rfl | simp)) | (simp [*]; done)), sqE, H', ⟨by have := HK1.out; have := HK2.out; omega⟩, ⟨sqR HO_5.out⟩, ⟨sqB⟩⟩
end Go.Proofs.YtfmjdoofopamkaaGreatDoor.W
