import Derived.Test.YtfmjdoofopamkaaGreatDoorWx0
import Derived.Test.YtfmjdoofopamkaaGreatDoorWx1
import Derived.Test.YtfmjdoofopamkaaGreatDoorWx3
import Derived.Test.YtfmjdoofopamkaaGreatDoorWx4
import Derived.Test.YtfmjdoofopamkaaGreatDoorWx5
import Derived.Test.YtfmjdoofopamkaaGreatDoorWx6
import Derived.Test.YtfmjdoofopamkaaGreatDoorWx7
import Derived.Test.YtfmjdoofopamkaaGreatDoorWx9
namespace Go.Proofs.YtfmjdoofopamkaaGreatDoor.W
open Go.RowKit Go.Proofs.YtfmjdoofopamkaaGreatDoorW.PrintWords Go.Proofs.YtfmjdoofopamkaaGreatDoorW.PrintLast Go.Proofs.YtfmjdoofopamkaaGreatDoorW.PrintMore
set_option maxHeartbeats 8000000
set_option maxRecDepth 100000
attribute [local go_sem] max2_int min2_int max_two min_two max_three min_three max_four min_four
set_option linter.unusedVariables false
set_option linter.unusedSimpArgs false
mutual
def weigh_whole.l0 : Nat → List Int → List Int → List Nat → Int → Int → Option (List Int × List Int)
 | 0, _, _, _, _, _ => none
 | k + 1, x2, x3, x11, x12, x13 => if x13 < x12 then (if 0 ≤ x13 then (if x13 < (x11.length : Int) then ((weigh_parts.f k (rdOf 0 x11 x13)).bind fun bt399 => (if (wrap64 (bt399.2 + 1074)) < 0 then (if 0 ≤ (wrap64 (-(wrap64 (bt399.2 + 1074)))) then (weigh_whole.j1 k x2 x3 (rdOf 0 x11 x13) (shr .u64 bt399.1 (wrap64 (-(wrap64 (bt399.2 + 1074))))) 0 x11 x12 x13) else (none)) else (weigh_whole.j1 k x2 x3 (rdOf 0 x11 x13) bt399.1 (wrap64 (bt399.2 + 1074)) x11 x12 x13))) else (none)) else (none)) else ((weigh_trim.f k x2).bind fun t392 => ((weigh_trim.f k x3).bind fun t395 => (some (t392, t395))))
def weigh_whole.j1 : Nat → List Int → List Int → Nat → Int → Int → List Nat → Int → Int → Option (List Int × List Int)
 | 0, _, _, _, _, _, _, _, _ => none
 | k + 1, x2, x3, x5, x6, x8, x11, x12, x13 => (math_Signbit.f x5).bind fun t401 => (if t401 = true then ((weigh_add.f k x3 x6 x8).bind fun t402 => (weigh_whole.l0 k x2 t402 x11 x12 (wrap64 (x13 + 1)))) else ((weigh_add.f k x2 x6 x8).bind fun t403 => (weigh_whole.l0 k t403 x3 x11 x12 (wrap64 (x13 + 1)))))
end
def weigh_whole.f (k : Nat) (l0 : List Nat) : Option (List Int × List Int) := if 68 ≤ 70368744177664 then (weigh_whole.l0 k (List.replicate 68 0) (List.replicate 68 0) l0 (l0.length : Int) 0) else (none)
theorem weigh_whole.mono_l : ∀ k, (∀ y0 y1 y2 y3 y4, LeO (weigh_whole.l0 k y0 y1 y2 y3 y4) (weigh_whole.l0 (k + 1) y0 y1 y2 y3 y4)) ∧ (∀ y0 y1 y2 y3 y4 y5 y6 y7, LeO (weigh_whole.j1 k y0 y1 y2 y3 y4 y5 y6 y7) (weigh_whole.j1 (k + 1) y0 y1 y2 y3 y4 y5 y6 y7))
 | 0 => ⟨fun _ _ _ _ _ r h => by simp [weigh_whole.l0] at h, fun _ _ _ _ _ _ _ _ r h => by simp [weigh_whole.j1] at h⟩
 | k + 1 => by
  obtain ⟨ih0, ih1⟩ := weigh_whole.mono_l k
  refine ⟨?_, ?_⟩
  ·intro y0 y1 y2 y3 y4
   unfold weigh_whole.l0
   repeat' first | (with_reducible first | apply ih0 | apply ih1 | apply weigh_add.mono | apply weigh_parts.mono | apply weigh_trim.mono | apply LeO.refl | apply LeO.none | refine LeO.ite ?_ ?_ | refine LeO.bind ?_ (fun _ => ?_)) | apply LeO.none | refine LeO.ite ?_ ?_ | refine LeO.bind ?_ (fun _ => ?_)
  intro y0 y1 y2 y3 y4 y5 y6 y7
  unfold weigh_whole.j1
  repeat' first | (with_reducible first | apply ih0 | apply ih1 | apply weigh_add.mono | apply weigh_parts.mono | apply weigh_trim.mono | apply LeO.refl | apply LeO.none | refine LeO.ite ?_ ?_ | refine LeO.bind ?_ (fun _ => ?_)) | apply LeO.none | refine LeO.ite ?_ ?_ | refine LeO.bind ?_ (fun _ => ?_)
theorem weigh_whole.mono : ∀ a0 k, LeO (weigh_whole.f k a0) (weigh_whole.f (k + 1) a0) := by
 intro a0 k
 obtain ⟨ih0, ih1⟩ := weigh_whole.mono_l k
 unfold weigh_whole.f
 repeat' first | (with_reducible first | apply ih0 | apply ih1 | apply weigh_add.mono | apply weigh_parts.mono | apply weigh_trim.mono | apply LeO.refl | apply LeO.none | refine LeO.ite ?_ ?_ | refine LeO.bind ?_ (fun _ => ?_)) | apply LeO.none | refine LeO.ite ?_ ?_ | refine LeO.bind ?_ (fun _ => ?_)
theorem weigh_whole.calls (k : Nat) (A0 : Option Addr) (c0 : Nat) (l0 : List Nat) (r1 : List Int) (r2 : List Int) (w : World) (hr0 : Kd.C Kd.flt w A0 l0.length l0) (hc0 : l0.length ≤ c0) (h : weigh_whole.f k l0 = some (r1, r2)) :
  Calls Tryz.prog 82 #[.slice A0 l0.length c0] w fun e w' => ∃ v0_ v1_ : Value, e = .returned (.tuple #[v0_, v1_]) ∧ Kd.V (Kd.int .u32) 83 w' w.heap.size (fun k_ => (w.heap.size ≤ k_)) v0_ r1 ∧ Kd.V (Kd.int .u32) 83 w' w.heap.size (fun k_ => (w.heap.size ≤ k_)) v1_ r2 ∧ Below w.heap.size w w' := by
 have HR0 := Aside0.mk hr0
 have HC0 := Aside0.mk hc0
 clear hr0 hc0
 have HB := Aside0.mk (Below.refl w.heap.size w)
 have H : (if 68 ≤ 70368744177664 then (weigh_whole.l0 k (List.replicate 68 0) (List.replicate 68 0) l0 (l0.length : Int) 0) else (none)) = some (r1, r2) := h
 clear h
 by_cases c2 : 68 ≤ 70368744177664
 case neg => rw [if_neg c2] at H; exact absurd H (by simp)
 rw [if_pos c2] at H
 have c2b0 := eq_true c2
 have c2b1 := decide_eq_true c2
 clear c2
 obtain ⟨y386, hy386⟩ : ∃ y_ : List Int, y_ = (List.replicate 68 0) := ⟨_, rfl⟩
 replace H : (weigh_whole.l0 k y386 (List.replicate 68 0) l0 (l0.length : Int) 0) = some (r1, r2) := by first | (rw [hy386]; with_reducible exact H) | (have H2_ := (Option.bind_some _ _).symm.trans H; rw [hy386]; with_reducible exact H2_) | (have H2_ := (Option.bind_some _ _).symm.trans H; with_reducible exact H2_) | with_reducible exact H | (rw [hy386]; exact H) | exact H
 have Ny386 := Aside0.mk hy386
 clear hy386
 obtain ⟨y389, hy389⟩ : ∃ y_ : List Int, y_ = (List.replicate 68 0) := ⟨_, rfl⟩
 replace H : (weigh_whole.l0 k y386 y389 l0 (l0.length : Int) 0) = some (r1, r2) := by first | (rw [hy389]; with_reducible exact H) | (have H2_ := (Option.bind_some _ _).symm.trans H; rw [hy389]; with_reducible exact H2_) | (have H2_ := (Option.bind_some _ _).symm.trans H; with_reducible exact H2_) | with_reducible exact H | (rw [hy389]; exact H) | exact H
 have Ny389 := Aside0.mk hy389
 clear hy389
 have H' := Aside0.mk H
 clear H
 go_enter Tryz.func82, Tryz.ntmps82
 try go_wp2
 have n0_ := Aside0.mk (below_drew1 HB.out)
 clear HB
 have HB := n0_
 clear n0_
 refine start_ (n := 4) (S := fun w' => True) (ds := []) #[false, false, false, false] (by kernel_rfl) rfl rfl trivial (fun hHeld => ?_)
 generalize w.drew = w3 at HB hHeld ⊢
 refine join_ (σ := Value × Value) 1 #[true, true, true, false] (fun s_ => [(9, s_.1), (10, s_.2), (2, s_.1)]) (fun s_ w' => (Kd.R (Kd.int .u32) 83 w' w.heap.size (fun k_ => (w.heap.size ≤ k_) ∧ some k_ ≠ (s_.2 : Value).ownBlock) s_.1 y386) ∧ (Kd.R (Kd.int .u32) 83 w' w.heap.size (fun k_ => (w.heap.size ≤ k_) ∧ some k_ ≠ (s_.1 : Value).ownBlock) s_.2 y389) ∧ (Below w.heap.size w w')) ?_ ?_
 rotate_left
 ·intro hCont
  refine two_ (i := 0) (j := 1) (Ni := some 9) (Nj := some 10) #[true, false, false, false] #[false, true, false, false] rfl rfl rfl rfl (by kernel_rfl) (by decide) (by decide) (fun K hK => ?_) (fun K hK => ?_)
  ·skip
   refine Kd.R_make_step (Kd.int .u32) _ 83 (by rfl) (N := 9) rfl 53 _ _ rfl 68 rfl rfl Tryz.underlying53 (.int .u32 0) 4 info83 rfl (by decide) (by omega) 0 (ok := fun _ => True) (okp := fun _ => True) rfl (fun _ hk => hk) trivial (by omega) (by omega) (Below.refl _ _) (Nat.le_refl _) ?_
   intro v387 w4 ho5 hb hg_ hnew_
   clear hg_ hnew_
   (first | rw [← Ny386.out] at ho5 | (simp only [Int.reduceToNat] at ho5; rw [← Ny386.out] at ho5))
   have n0_ := Aside0.mk (Kd.R_lower (Kd.R_newM (M := fun k_ => (w.heap.size ≤ k_)) ho5 (below_size sqB) (fun k_ h_ => h_)) (below_size sqB))
   have n1_ := Aside0.mk (below_step sqB hb)
   clear HB
   have HO388 := n0_
   have HB := n1_
   clear n0_ n1_
   clear hb ho5
   refine hK.out _ _ trivial (fun hHeld => ?_)
   clear hK K
   refine norm_ (a' := ?_) ?_ ?_
   rotate_left
   ·show Act.put _ (some 9) _ = _
    simp only [Act.put, List.setIfInBounds_toArray, List.set_cons_zero, List.set_cons_succ, i64_w, i32_w]
    rfl
   refine pure_ (i := 2) (N := some 2) (v := ?_) (a' := ?_) #[true, false, true, false] rfl rfl (by kernel_rfl) (fun _ _ _ h => h) (Or.inl ⟨by rfl, ?_⟩) ?_ ?_
   rotate_left
   ·intro w'
    go_simp
    with_reducible rfl
   rotate_left
   ·simp only [Act.put, List.setIfInBounds_toArray, List.set_cons_zero, List.set_cons_succ, i64_w, i32_w]
    rfl
   refine one_ (i := 1) (N := some 10) #[true, true, true, false] rfl rfl (by kernel_rfl) (by decide) (fun K hK => ?_)
   refine Kd.R_make_step (Kd.int .u32) _ 83 (by rfl) (N := 10) rfl 53 _ _ rfl 68 rfl rfl Tryz.underlying53 (.int .u32 0) 4 info83 rfl (by decide) (by omega) 0 (ok := fun _ => True) (okp := fun _ => True) rfl (fun _ hk => hk) trivial (by omega) (by omega) (Below.refl _ _) (Nat.le_refl _) ?_
   intro v390 w6 ho7 hb hg_ hnew_
   clear hg_ hnew_
   (first | rw [← Ny389.out] at ho7 | (simp only [Int.reduceToNat] at ho7; rw [← Ny389.out] at ho7))
   have n0_ := Aside0.mk (Kd.R_elder' (sqR HO388.out) (Kd.R_base ho7) hb)
   have n1_ := Aside0.mk (Kd.R_lower (Kd.R_new' (Kd.R_newM (M := fun k_ => (w.heap.size ≤ k_)) ho7 (below_size sqB) (fun k_ h_ => h_)) (Kd.R_lt (sqR HO388.out))) (below_size sqB))
   have n2_ := Aside0.mk (below_step sqB hb)
   clear HO388
   clear HB
   have HO388 := n0_
   have HO391 := n1_
   have HB := n2_
   clear n0_ n1_ n2_
   clear hb ho7
   refine hK.out _ _ trivial (fun hHeld => ?_)
   clear hK K
   refine norm_ (a' := ?_) ?_ ?_
   rotate_left
   ·show Act.put _ (some 10) _ = _
    simp only [Act.put, List.setIfInBounds_toArray, List.set_cons_zero, List.set_cons_succ, i64_w, i32_w]
    rfl
   exact norm_ (by simp only [putAll, Act.put, List.setIfInBounds_toArray, List.set_cons_zero, List.set_cons_succ]) (hCont (v387, v390) _ ⟨(by (with_reducible repeat (first | apply Kd.R_alloc | apply Kd.R_drewN | apply Kd.R_drew)); exact Kd.R_mono HO388.out (fun _ hk => ⟨hk.1.1, hk.2⟩)), (by (with_reducible repeat (first | apply Kd.R_alloc | apply Kd.R_drewN | apply Kd.R_drew)); exact Kd.R_mono HO391.out (fun _ hk => ⟨hk.1.1, hk.2⟩)), sqB⟩)
  skip
  refine Kd.R_make_step (Kd.int .u32) _ 83 (by rfl) (N := 10) rfl 53 _ _ rfl 68 rfl rfl Tryz.underlying53 (.int .u32 0) 4 info83 rfl (by decide) (by omega) 0 (ok := fun _ => True) (okp := fun _ => True) rfl (fun _ hk => hk) trivial (by omega) (by omega) (Below.refl _ _) (Nat.le_refl _) ?_
  intro v390 w4 ho5 hb hg_ hnew_
  clear hg_ hnew_
  (first | rw [← Ny389.out] at ho5 | (simp only [Int.reduceToNat] at ho5; rw [← Ny389.out] at ho5))
  have n0_ := Aside0.mk (Kd.R_lower (Kd.R_newM (M := fun k_ => (w.heap.size ≤ k_)) ho5 (below_size sqB) (fun k_ h_ => h_)) (below_size sqB))
  have n1_ := Aside0.mk (below_step sqB hb)
  clear HB
  have HO391 := n0_
  have HB := n1_
  clear n0_ n1_
  clear hb ho5
  refine hK.out _ _ trivial (fun hHeld => ?_)
  clear hK K
  refine norm_ (a' := ?_) ?_ ?_
  rotate_left
  ·show Act.put _ (some 10) _ = _
   simp only [Act.put, List.setIfInBounds_toArray, List.set_cons_zero, List.set_cons_succ, i64_w, i32_w]
   rfl
  refine one_ (i := 0) (N := some 9) #[true, true, false, false] rfl rfl (by kernel_rfl) (by decide) (fun K hK => ?_)
  refine Kd.R_make_step (Kd.int .u32) _ 83 (by rfl) (N := 9) rfl 53 _ _ rfl 68 rfl rfl Tryz.underlying53 (.int .u32 0) 4 info83 rfl (by decide) (by omega) 0 (ok := fun _ => True) (okp := fun _ => True) rfl (fun _ hk => hk) trivial (by omega) (by omega) (Below.refl _ _) (Nat.le_refl _) ?_
  intro v387 w6 ho7 hb hg_ hnew_
  clear hg_ hnew_
  (first | rw [← Ny386.out] at ho7 | (simp only [Int.reduceToNat] at ho7; rw [← Ny386.out] at ho7))
  have n0_ := Aside0.mk (Kd.R_elder' (sqR HO391.out) (Kd.R_base ho7) hb)
  have n1_ := Aside0.mk (Kd.R_lower (Kd.R_new' (Kd.R_newM (M := fun k_ => (w.heap.size ≤ k_)) ho7 (below_size sqB) (fun k_ h_ => h_)) (Kd.R_lt (sqR HO391.out))) (below_size sqB))
  have n2_ := Aside0.mk (below_step sqB hb)
  clear HO391
  clear HB
  have HO391 := n0_
  have HO388 := n1_
  have HB := n2_
  clear n0_ n1_ n2_
  clear hb ho7
  refine hK.out _ _ trivial (fun hHeld => ?_)
  clear hK K
  refine norm_ (a' := ?_) ?_ ?_
  rotate_left
  ·show Act.put _ (some 9) _ = _
   simp only [Act.put, List.setIfInBounds_toArray, List.set_cons_zero, List.set_cons_succ, i64_w, i32_w]
   rfl
  refine pure_ (i := 2) (N := some 2) (v := ?_) (a' := ?_) #[true, true, true, false] rfl rfl (by kernel_rfl) (fun _ _ _ h => h) (Or.inl ⟨by rfl, ?_⟩) ?_ ?_
  rotate_left
  ·intro w'
   go_simp
   with_reducible rfl
  rotate_left
  ·simp only [Act.put, List.setIfInBounds_toArray, List.set_cons_zero, List.set_cons_succ, i64_w, i32_w]
   rfl
  exact norm_ (by simp only [putAll, Act.put, List.setIfInBounds_toArray, List.set_cons_zero, List.set_cons_succ]) (hCont (v387, v390) _ ⟨(by (with_reducible repeat (first | apply Kd.R_alloc | apply Kd.R_drewN | apply Kd.R_drew)); exact Kd.R_mono HO388.out (fun _ hk => ⟨hk.1.1, hk.2⟩)), (by (with_reducible repeat (first | apply Kd.R_alloc | apply Kd.R_drewN | apply Kd.R_drew)); exact Kd.R_mono HO391.out (fun _ hk => ⟨hk.1.1, hk.2⟩)), sqB⟩)
 rintro ⟨v387, v390⟩ w8 ⟨h0_, h1_, h2_⟩
 have n0_ : Aside0 (Kd.R (Kd.int .u32) 83 w8 w.heap.size (fun k_ => (w.heap.size ≤ k_) ∧ some k_ ≠ (v390 : Value).ownBlock) v387 y386) := ⟨h0_⟩
 have n1_ : Aside0 (Kd.R (Kd.int .u32) 83 w8 w.heap.size (fun k_ => (w.heap.size ≤ k_) ∧ some k_ ≠ (v387 : Value).ownBlock) v390 y389) := ⟨h1_⟩
 have n2_ : Aside0 (Below w.heap.size w w8) := ⟨h2_⟩
 clear HB
 clear h0_ h1_ h2_
 have HO388 := n0_
 have HO391 := n1_
 have HB := n2_
 clear n0_ n1_ n2_
 have hHeld := trivial
 refine norm_ (a' := ?_) ?_ ?_
 rotate_left
 ·simp only [putAll, Act.put, List.setIfInBounds_toArray, List.set_cons_zero, List.set_cons_succ]
  rfl
 refine pure_ (i := 3) (N := some 3) (v := ?_) (a' := ?_) #[true, true, true, true] rfl rfl (by kernel_rfl) (fun _ _ _ h => h) (Or.inl ⟨by rfl, ?_⟩) ?_ ?_
 rotate_left
 ·intro w'
  go_simp
  with_reducible rfl
 rotate_left
 ·simp only [Act.put, List.setIfInBounds_toArray, List.set_cons_zero, List.set_cons_succ, i64_w, i32_w]
  rfl
 refine done_ (by kernel_rfl) ?_
 try go_wp2
 go_loopg [13] k (fun kq v13 w' => ∃ (x2_1 : List Int) (x3_1 : List Int) (x13_1 : Int), v13 = .int .i64 x13_1 ∧ Aside0 (weigh_whole.l0 kq x2_1 x3_1 l0 (l0.length : Int) x13_1 = some (r1, r2)) ∧ Aside0 (kq ≤ k) ∧ Aside0 (Kd.R (Kd.int .u32) 83 w' w.heap.size (fun k_ => (w.heap.size ≤ k_) ∧ some k_ ≠ (v390 : Value).ownBlock) v387 x2_1) ∧ Aside0 (Kd.R (Kd.int .u32) 83 w' w.heap.size (fun k_ => (w.heap.size ≤ k_) ∧ some k_ ≠ (v387 : Value).ownBlock) v390 x3_1) ∧ Aside0 (Below w.heap.size w w'))
 case atStart => exact ⟨(y386), (y389), (0), sqE, H', ⟨Nat.le_refl _⟩, ⟨sqR HO388.out⟩, ⟨sqR HO391.out⟩, ⟨sqB⟩⟩
 case round =>
  clear H'
  try clear c2
  try clear c2b0
  try clear c2b1
  try clear p2
  try clear c8
  obtain ⟨x2_1, x3_1, x13_1, rfl, HA, HK1, HO_2, HO_3, HB⟩ := hrel
  cases gk with
  | zero => exact absurd HA.out (by simp [weigh_whole.l0])
  | succ k1 =>
   have H := HA.out
   clear HA
   simp only [weigh_whole.l0] at H
   by_cases c9 : x13_1 < (l0.length : Int)
   case neg =>
    rw [if_neg c9] at H
    have c9b0 := decide_eq_false c9
    clear c9
    obtain ⟨t392, A26, H⟩ := sqO H
    try dsimp only at H
    obtain ⟨t395, A27, H⟩ := sqO H
    try dsimp only at H
    simp only [Option.some.injEq, Prod.mk.injEq] at H
    obtain ⟨rfl, rfl⟩ := H
    obtain ⟨Ao28, co28, eo28⟩ := Kd.R_slice HO_2.out
    subst eo28
    go_wp2_with (first | ((with_reducible refine gate_callee (f := 57) rfl ?_); refine goesL_ (some 42) rfl rfl Tryz.func57 (by kernel_rfl) rfl #[.slice Ao28 x2_1.length co28] rfl sqA ?_; (with_reducible refine (weigh_trim.calls k1 (fun k_ => some k_ = (.slice Ao28 x2_1.length co28 : Value).ownBlock) _ _ x2_1 t392 _ ?side1 A26.out).mono ?_); (case side1 => exact Kd.R_V (Kd.R_tight rfl (HO_2.out))); rintro e w29 ⟨v393, rfl, ho0, hb⟩; refine ⟨_, rfl, ?_⟩; have n0_ := Aside0.mk (Kd.R_below (sqR HO_2.out) hb); have n1_ := Aside0.mk (Kd.R_below (sqR HO_3.out) hb); have n2_ := Aside0.mk (Kd.V_lower (Kd.V_mono (ok' := fun k_ => (w.heap.size ≤ k_) ∧ some k_ ≠ (v390 : Value).ownBlock) ho0 (fun k_ hk_ => ⟨Or.elim hk_ (fun hs_ => ((HO_2.out).1 k_ hs_.symm).1) (fun hn_ => (Nat.le_trans (below_size sqB) hn_)), Or.elim hk_ (fun hs_ => ((HO_2.out).1 k_ hs_.symm).2) (fun hn_ => (Kd.fresh' (Kd.R_lt (sqR HO_3.out)) k_ hn_))⟩)) (below_size sqB)); have n3_ := Aside0.mk (below_step sqB hb); clear HO_2; clear HO_3; clear HB; have HO_2 := n0_; have HO_3 := n1_; have HO394 := n2_; have HB := n3_; clear n0_ n1_ n2_ n3_; (try clear hb); (try clear hb2); (try clear hk); (try clear hi); (try clear ho0); obtain ⟨Ao30, co30, eo30⟩ := Kd.R_slice HO_3.out; subst eo30) | ((with_reducible refine gate_callee (f := 57) rfl ?_); refine goesL_ (some 44) rfl rfl Tryz.func57 (by kernel_rfl) rfl #[.slice Ao30 x3_1.length co30] rfl sqA ?_; (with_reducible refine (weigh_trim.calls k1 (fun k_ => some k_ = (.slice Ao30 x3_1.length co30 : Value).ownBlock) _ _ x3_1 t395 _ ?side1 A27.out).mono ?_); (case side1 => exact Kd.R_V (Kd.R_tight rfl (HO_3.out))); rintro e w31 ⟨v396, rfl, ho0, hb⟩; refine ⟨_, rfl, ?_⟩; have n0_ := Aside0.mk (Kd.R_below (sqR HO_2.out) hb); have n1_ := Aside0.mk (Kd.R_below (sqR HO_3.out) hb); have n2_ := Aside0.mk (Kd.V_below (sqV HO394.out) hb); have n3_ := Aside0.mk (Kd.V_lower (Kd.V_mono (ok' := fun k_ => (w.heap.size ≤ k_) ∧ some k_ ≠ (.slice Ao28 x2_1.length co28 : Value).ownBlock) ho0 (fun k_ hk_ => ⟨Or.elim hk_ (fun hs_ => ((HO_3.out).1 k_ hs_.symm).1) (fun hn_ => (Nat.le_trans (below_size sqB) hn_)), Or.elim hk_ (fun hs_ => ((HO_3.out).1 k_ hs_.symm).2) (fun hn_ => (Kd.fresh' (Kd.R_lt (sqR HO_2.out)) k_ hn_))⟩)) (below_size sqB)); have n4_ := Aside0.mk (below_step sqB hb); clear HO_2; clear HO_3; clear HO394; clear HB; have HO_2 := n0_; have HO_3 := n1_; have HO394 := n2_; have HO397 := n3_; have HB := n4_; clear n0_ n1_ n2_ n3_ n4_; (try clear hb); (try clear hb2); (try clear hk); (try clear hi); (try clear ho0)))
    go_ret2
    exact ⟨_, _, sqE', by (with_reducible repeat (first | apply Kd.V_alloc | apply Kd.V_drewN | apply Kd.V_drew)); exact Kd.V_mono HO394.out (fun _ hk => hk.1), by (with_reducible repeat (first | apply Kd.V_alloc | apply Kd.V_drewN | apply Kd.V_drew)); exact Kd.V_mono HO397.out (fun _ hk => hk.1), sqB⟩
   rw [if_pos c9] at H
   have c9b0 := decide_eq_true c9
   clear c9
   by_cases c10 : 0 ≤ x13_1
   case neg => rw [if_neg c10] at H; exact absurd H (by simp)
   rw [if_pos c10] at H
   have c10b0 := decide_eq_true c10
   clear c10
   by_cases c11 : x13_1 < (l0.length : Int)
   case neg => rw [if_neg c11] at H; exact absurd H (by simp)
   rw [if_pos c11] at H
   have c11b0 := decide_eq_true c11
   clear c11
   obtain ⟨⟨t399, t400⟩, A12, H⟩ := sqO H
   try dsimp only at H
   have HC13 := Aside0.mk H
   clear H
   have p398 : 0 ≤ (x13_1 : Int) := sqD
   have q398 : x13_1 < (l0.length : Int) := sqD
   obtain ⟨ad398, e398, hx398_0⟩ := Kd.at_flt HR0.out x13_1 p398 q398
   cases e398
   replace hx398_0 := (HB.out.cell (World.block_lt_of_cell? w _ hx398_0)).trans hx398_0
   replace p398 := eq_true p398
   replace q398 := eq_true q398
   go_upto_if 25 with (first | ((with_reducible refine gate_callee (f := 101) rfl ?_); refine goesL_ (some 19) rfl rfl Tryz.func101 (by kernel_rfl) rfl #[.float .f64 (rdOf 0 l0 x13_1)] rfl sqA ?_; (with_reducible refine (weigh_parts.calls k1 (rdOf 0 l0 x13_1) t399 t400 _ A12.out).mono ?_); rintro e w' ⟨rfl, ⟨nd, rfl⟩⟩; refine ⟨_, rfl, ?_⟩))
   (try simp only [Act.put, List.setIfInBounds_toArray, List.set_cons_zero, List.set_cons_succ])
   go_cut [6, 8] (fun v6 v8 wc => ∃ (kq : Nat) (x6_12 : Int) (x8_12 : Int), v6 = .int .u64 x6_12 ∧ v8 = .int .i64 x8_12 ∧ Aside0 (weigh_whole.j1 kq x2_1 x3_1 (rdOf 0 l0 x13_1) x6_12 x8_12 l0 (l0.length : Int) x13_1 = some (r1, r2)) ∧ Aside0 (kq ≤ k1) ∧ Aside0 (Kd.R (Kd.int .u32) 83 wc w.heap.size (fun k_ => (w.heap.size ≤ k_) ∧ some k_ ≠ (v390 : Value).ownBlock) v387 x2_1) ∧ Aside0 (Kd.R (Kd.int .u32) 83 wc w.heap.size (fun k_ => (w.heap.size ≤ k_) ∧ some k_ ≠ (v387 : Value).ownBlock) v390 x3_1) ∧ Aside0 (Below w.heap.size w wc))
   case first =>
    have H := HC13.out
    clear HC13
    by_cases c14 : (wrap64 (t400 + 1074)) < 0
    case neg =>
     rw [if_neg c14] at H
     have c14b0 := decide_eq_false c14
     clear c14
     (first | rw [c14b0] | (simp only [i64_w, i32_w]; rw [c14b0]) | skip)
     have H' := Aside0.mk H
     clear H
     go_wp2
     go_meet
     case rel => exact ⟨_, (t399), (wrap64 (t400 + 1074)), sqE, sqE, H', ⟨by have := HK1.out; first | omega | exact Nat.le_refl _⟩, ⟨sqR HO_2.out⟩, ⟨sqR HO_3.out⟩, ⟨sqB⟩⟩
    rw [if_pos c14] at H
    have c14b0 := decide_eq_true c14
    clear c14
    (first | rw [c14b0] | (simp only [i64_w, i32_w]; rw [c14b0]) | skip)
    obtain ⟨ji15, hji15⟩ : ∃ j_ : Int, (wrap64 (-(wrap64 (t400 + 1074)))) = j_ := ⟨_, rfl⟩
    replace H : (if 0 ≤ (ji15) then (weigh_whole.j1 k1 x2_1 x3_1 (rdOf 0 l0 x13_1) (shr .u64 t399 (ji15)) 0 l0 (l0.length : Int) x13_1) else (none)) = some (r1, r2) := by first | (rw [hji15] at H; exact H) | (simp only [hji15] at H ⊢; exact H)
    have hji15w : (IntKind.i64.wrap (-(wrap64 (t400 + 1074)))) = ji15 := (i64_w _).trans hji15
    by_cases c16 : 0 ≤ (ji15)
    case neg => rw [if_neg c16] at H; exact absurd H (by simp)
    rw [if_pos c16] at H
    have c16b0 := eq_true c16
    have c16b1 := decide_eq_true c16
    clear c16
    obtain ⟨ji17, hji17⟩ : ∃ j_ : Int, (shr .u64 t399 (ji15)) = j_ := ⟨_, rfl⟩
    replace H : (weigh_whole.j1 k1 x2_1 x3_1 (rdOf 0 l0 x13_1) ji17 0 l0 (l0.length : Int) x13_1) = some (r1, r2) := by first | (rw [hji17] at H; exact H) | (simp only [hji17] at H ⊢; exact H)
    have hji17_ : (t399 / 2 ^ min (ji15).toNat 64) = ji17 := hji17
    have hji17z : (ji15) ≤ 64 → (t399 / 2 ^ (ji15).toNat) = ji17 := shr_small hji17
    have H' := Aside0.mk H
    clear H
    go_wp2
    go_meet
    case rel => exact ⟨_, (ji17), (0), (by first | rfl | (simp; done) | (simp only [← hji17] <;> (first | rfl | simp)) | (simp [*]; done)), sqE, H', ⟨by have := HK1.out; first | omega | exact Nat.le_refl _⟩, ⟨sqR HO_2.out⟩, ⟨sqR HO_3.out⟩, ⟨sqB⟩⟩
   case rest =>
    clear HC13
    try clear c1
    try clear c2
    try clear c2b0
    try clear c2b1
    try clear p2
    try clear p3
    try clear q3
    try clear hx3
    try clear p6
    try clear c8
    try clear c9
    try clear c9b0
    try clear c10
    try clear c10b0
    try clear c11
    try clear c11b0
    try clear c14
    try clear c14b0
    try clear c16
    try clear c16b0
    try clear c16b1
    try clear hx398_0
    try clear p2
    try clear p398
    try clear q398
    obtain ⟨kq, x6_12, x8_12, rfl, rfl, HA, HJ12, HO_2, HO_3, HB⟩ := hcut
    cases kq with
    | zero => exact absurd HA.out (by simp [weigh_whole.j1])
    | succ kj12 =>
     have H := HA.out
     clear HA
     simp only [weigh_whole.j1] at H
     obtain ⟨t401, A18, H⟩ := sqO H
     try dsimp only at H
     by_cases c19 : t401 = true
     ·subst c19
      have H1 : ((weigh_add.f kj12 x3_1 x6_12 x8_12).bind fun t402 => (weigh_whole.l0 kj12 x2_1 t402 l0 (l0.length : Int) (wrap64 (x13_1 + 1)))) = some (r1, r2) := by rw [if_pos rfl] at H; exact H
      clear H
      have H := H1
      clear H1
      obtain ⟨t402, A20, H⟩ := sqO H
      try dsimp only at H
      have H' := Aside0.mk H
      clear H
      go_wp2_with (first | ((with_reducible refine gate_callee (f := 37) rfl ?_); refine goesL_ (some 31) rfl rfl Tryz.func37 (by kernel_rfl) rfl #[.float .f64 (rdOf 0 l0 x13_1)] rfl sqA ?_; (with_reducible refine (math_Signbit.calls (rdOf 0 l0 x13_1) true _ A18.out).mono ?_); rintro e w' ⟨rfl, ⟨nd, rfl⟩⟩; refine ⟨_, rfl, ?_⟩; obtain ⟨Ao21, co21, eo21⟩ := Kd.R_slice HO_3.out; subst eo21) | ((with_reducible refine gate_callee (f := 102) rfl ?_); refine goesL_ (some 35) rfl rfl Tryz.func102 (by kernel_rfl) rfl #[.slice Ao21 x3_1.length co21, .int .u64 x6_12, .int .i64 x8_12] rfl sqA ?_; (with_reducible refine (weigh_add.calls kj12 (fun k_ => some k_ = (.slice Ao21 x3_1.length co21 : Value).ownBlock) (.slice Ao21 x3_1.length co21) x3_1 x6_12 x8_12 t402 w _ ?side1 ?side2 A20.out).mono ?_); (case side1 => repeat (first | (with_reducible first | exact HB.out | apply below_alloc | apply pw_below_drewN | apply below_drew1) | exact HB.out)); (case side2 => exact Kd.R_tight rfl HO_3.out); rintro e w22 ⟨rfl, hy0, hb, hkp⟩; refine ⟨_, rfl, ?_⟩; have n0_ := Aside0.mk (Kd.R_mono (ok' := fun k_ => (w.heap.size ≤ k_) ∧ some k_ ≠ (.slice Ao21 x3_1.length co21 : Value).ownBlock) (Kd.R_keptB (HO_2.out) hkp (fun k_ hk_ hs_ => (hk_.2) hs_)) (fun k_ hk_ => ⟨hk_.1.1, hk_.1.2⟩)); have n1_ := Aside0.mk (Kd.R_reok rfl hy0 (fun k_ e_ => HO_3.out.1 k_ e_)); have n2_ := Aside0.mk (hb); clear HO_2; clear HO_3; clear HB; have HO_2 := n0_; have HO_3 := n1_; have HB := n2_; clear n0_ n1_ n2_; (try clear hb); (try clear hkp); (try clear hy0)))
      go_roundg kj12
      case measure => have := HK1.out; have := HJ12.out; omega
      case rel => exact ⟨(x2_1), (t402), (wrap64 (x13_1 + 1)), sqE, H', ⟨by have := HK1.out; have := HJ12.out; omega⟩, ⟨sqR HO_2.out⟩, ⟨sqR HO_3.out⟩, ⟨sqB⟩⟩
     replace c19 := Bool.eq_false_iff.mpr c19
     subst c19
     have H1 : ((weigh_add.f kj12 x2_1 x6_12 x8_12).bind fun t403 => (weigh_whole.l0 kj12 t403 x3_1 l0 (l0.length : Int) (wrap64 (x13_1 + 1)))) = some (r1, r2) := by rw [if_neg (show ¬ (false = true) by decide)] at H; exact H
     clear H
     have H := H1
     clear H1
     obtain ⟨t403, A23, H⟩ := sqO H
     try dsimp only at H
     have H' := Aside0.mk H
     clear H
     go_wp2_with (first | ((with_reducible refine gate_callee (f := 37) rfl ?_); refine goesL_ (some 31) rfl rfl Tryz.func37 (by kernel_rfl) rfl #[.float .f64 (rdOf 0 l0 x13_1)] rfl sqA ?_; (with_reducible refine (math_Signbit.calls (rdOf 0 l0 x13_1) false _ A18.out).mono ?_); rintro e w' ⟨rfl, ⟨nd, rfl⟩⟩; refine ⟨_, rfl, ?_⟩; obtain ⟨Ao24, co24, eo24⟩ := Kd.R_slice HO_2.out; subst eo24) | ((with_reducible refine gate_callee (f := 102) rfl ?_); refine goesL_ (some 39) rfl rfl Tryz.func102 (by kernel_rfl) rfl #[.slice Ao24 x2_1.length co24, .int .u64 x6_12, .int .i64 x8_12] rfl sqA ?_; (with_reducible refine (weigh_add.calls kj12 (fun k_ => some k_ = (.slice Ao24 x2_1.length co24 : Value).ownBlock) (.slice Ao24 x2_1.length co24) x2_1 x6_12 x8_12 t403 w _ ?side1 ?side2 A23.out).mono ?_); (case side1 => repeat (first | (with_reducible first | exact HB.out | apply below_alloc | apply pw_below_drewN | apply below_drew1) | exact HB.out)); (case side2 => exact Kd.R_tight rfl HO_2.out); rintro e w25 ⟨rfl, hy0, hb, hkp⟩; refine ⟨_, rfl, ?_⟩; have n0_ := Aside0.mk (Kd.R_reok rfl hy0 (fun k_ e_ => HO_2.out.1 k_ e_)); have n1_ := Aside0.mk (Kd.R_mono (ok' := fun k_ => (w.heap.size ≤ k_) ∧ some k_ ≠ (.slice Ao24 x2_1.length co24 : Value).ownBlock) (Kd.R_keptB (HO_3.out) hkp (fun k_ hk_ hs_ => (hk_.2) hs_)) (fun k_ hk_ => ⟨hk_.1.1, hk_.1.2⟩)); have n2_ := Aside0.mk (hb); clear HO_2; clear HO_3; clear HB; have HO_2 := n0_; have HO_3 := n1_; have HB := n2_; clear n0_ n1_ n2_; (try clear hb); (try clear hkp); (try clear hy0)))
     go_roundg kj12
     case measure => have := HK1.out; have := HJ12.out; omega
     case rel => exact ⟨(t403), (x3_1), (wrap64 (x13_1 + 1)), sqE, H', ⟨by have := HK1.out; have := HJ12.out; omega⟩, ⟨sqR HO_2.out⟩, ⟨sqR HO_3.out⟩, ⟨sqB⟩⟩
def weigh_shared.f (k : Nat) (l0 : List Nat) (a1 : Int) : Option (Nat) := (weigh_whole.f k l0).bind fun bt404 => ((weigh_nat_compare.f k bt404.1 bt404.2).bind fun t410 => (if t410 > 0 then ((weigh_nat_less.f k bt404.1 bt404.2).bind fun t411 => ((weigh_natOf.f k (IntKind.u64.wrap (a1))).bind fun t414 => ((weigh_rounded.f k t411 t414 (-1074)).bind fun t417 => (some t417)))) else (if t410 < 0 then ((weigh_nat_less.f k bt404.2 bt404.1).bind fun t418 => ((weigh_natOf.f k (IntKind.u64.wrap (a1))).bind fun t421 => ((weigh_rounded.f k t418 t421 (-1074)).bind fun t424 => (some (Op.negFloat .f64 t424))))) else (some (0 : Nat)))))
theorem weigh_shared.mono : ∀ a0 a1 k, LeO (weigh_shared.f k a0 a1) (weigh_shared.f (k + 1) a0 a1) := by
 intro a0 a1 k
 unfold weigh_shared.f
 repeat' first | (with_reducible first | apply weigh_natOf.mono | apply weigh_nat_compare.mono | apply weigh_nat_less.mono | apply weigh_rounded.mono | apply weigh_whole.mono | apply LeO.refl | apply LeO.none | refine LeO.ite ?_ ?_ | refine LeO.bind ?_ (fun _ => ?_)) | apply LeO.none | refine LeO.ite ?_ ?_ | refine LeO.bind ?_ (fun _ => ?_)
theorem weigh_shared.calls (k : Nat) (A0 : Option Addr) (c0 : Nat) (l0 : List Nat) (a1 : Int) (r : Nat) (w : World) (hr0 : Kd.C Kd.flt w A0 l0.length l0) (hc0 : l0.length ≤ c0) (h : weigh_shared.f k l0 a1 = some r) :
  Calls Tryz.prog 45 #[.slice A0 l0.length c0, .int .i64 a1] w fun e w' => e = .returned (.float .f64 r) ∧ Below w.heap.size w w' := by
 have HR0 := Aside0.mk hr0
 have HC0 := Aside0.mk hc0
 clear hr0 hc0
 have HB := Aside0.mk (Below.refl w.heap.size w)
 have H : ((weigh_whole.f k l0).bind fun bt404 => ((weigh_nat_compare.f k bt404.1 bt404.2).bind fun t410 => (if t410 > 0 then ((weigh_nat_less.f k bt404.1 bt404.2).bind fun t411 => ((weigh_natOf.f k (IntKind.u64.wrap (a1))).bind fun t414 => ((weigh_rounded.f k t411 t414 (-1074)).bind fun t417 => (some t417)))) else (if t410 < 0 then ((weigh_nat_less.f k bt404.2 bt404.1).bind fun t418 => ((weigh_natOf.f k (IntKind.u64.wrap (a1))).bind fun t421 => ((weigh_rounded.f k t418 t421 (-1074)).bind fun t424 => (some (Op.negFloat .f64 t424))))) else (some (0 : Nat)))))) = some r := h
 clear h
 obtain ⟨⟨t404, t407⟩, A3, H⟩ := sqO H
 try dsimp only at H
 obtain ⟨t410, A4, H⟩ := sqO H
 try dsimp only at H
 by_cases c5 : t410 > 0
 ·rw [if_pos c5] at H
  have c5b0 := decide_eq_true c5
  clear c5
  obtain ⟨t411, A6, H⟩ := sqO H
  try dsimp only at H
  obtain ⟨t414, A7, H⟩ := sqO H
  try dsimp only at H
  obtain ⟨t417, A8, H⟩ := sqO H
  try dsimp only at H
  obtain rfl := Option.some.inj H
  go_enter Tryz.func45, Tryz.ntmps45
  go_wp2_with (first | ((with_reducible refine gate_callee (f := 82) rfl ?_); refine goesL_ (some 10) rfl rfl Tryz.func82 (by kernel_rfl) rfl #[.slice A0 l0.length c0] rfl sqA ?_; (with_reducible refine (weigh_whole.calls k _ _ l0 t404 t407 _ ?side1 ?side2 A3.out).mono ?_); (case side1 => repeat (first | exact HR0.out | (with_reducible refine Kd.C_alloc ?_ _) | (with_reducible refine Kd.C_drewN ?_ _) | (with_reducible refine Kd.C_drew ?_))); (case side2 => exact HC0.out); rintro e w9 ⟨v405, v408, rfl, ho0, ho1, hb⟩; refine ⟨_, rfl, ?_⟩; have n0_ := Aside0.mk (Kd.V_lower (Kd.V_mono (ok' := fun k_ => True) ho0 (fun k_ hk_ => trivial)) (below_size sqB)); have n1_ := Aside0.mk (Kd.V_lower (Kd.V_mono (ok' := fun k_ => True) ho1 (fun k_ hk_ => trivial)) (below_size sqB)); have n2_ := Aside0.mk (below_step sqB hb); clear HB; have HO406 := n0_; have HO409 := n1_; have HB := n2_; clear n0_ n1_ n2_; (try clear hb); (try clear hb2); (try clear hk); (try clear hi); (try clear ho0); (try clear ho1); obtain ⟨Ao10, co10, eo10⟩ := Kd.V_slice HO406.out; subst eo10; obtain ⟨Ao11, co11, eo11⟩ := Kd.V_slice HO409.out; subst eo11) | ((with_reducible refine gate_callee (f := 53) rfl ?_); refine goesL_ (some 15) rfl rfl Tryz.func53 (by kernel_rfl) rfl #[.slice Ao10 t404.length co10, .slice Ao11 t407.length co11] rfl sqA ?_; (with_reducible refine (weigh_nat_compare.calls k _ _ t404 _ _ t407 t410 _ ?side1 ?side2 ?side3 ?side4 A4.out).mono ?_); (case side1 => repeat (first | exact (Kd.V_reads' HO406.out).2.2 | (with_reducible refine Kd.C_alloc ?_ _) | (with_reducible refine Kd.C_drewN ?_ _) | (with_reducible refine Kd.C_drew ?_))); (case side2 => exact (Kd.V_reads' HO406.out).2.1); (case side3 => repeat (first | exact (Kd.V_reads' HO409.out).2.2 | (with_reducible refine Kd.C_alloc ?_ _) | (with_reducible refine Kd.C_drewN ?_ _) | (with_reducible refine Kd.C_drew ?_))); (case side4 => exact (Kd.V_reads' HO409.out).2.1); rintro e w' ⟨rfl, ⟨nd, rfl⟩⟩; refine ⟨_, rfl, ?_⟩) | ((with_reducible refine gate_callee (f := 83) rfl ?_); refine goesL_ (some 21) rfl rfl Tryz.func83 (by kernel_rfl) rfl #[.slice Ao10 t404.length co10, .slice Ao11 t407.length co11] rfl sqA ?_; (with_reducible refine (weigh_nat_less.calls k _ _ t404 _ _ t407 t411 _ ?side1 ?side2 ?side3 ?side4 A6.out).mono ?_); (case side1 => repeat (first | exact (Kd.V_reads' HO406.out).2.2 | (with_reducible refine Kd.C_alloc ?_ _) | (with_reducible refine Kd.C_drewN ?_ _) | (with_reducible refine Kd.C_drew ?_))); (case side2 => exact (Kd.V_reads' HO406.out).2.1); (case side3 => repeat (first | exact (Kd.V_reads' HO409.out).2.2 | (with_reducible refine Kd.C_alloc ?_ _) | (with_reducible refine Kd.C_drewN ?_ _) | (with_reducible refine Kd.C_drew ?_))); (case side4 => exact (Kd.V_reads' HO409.out).2.1); rintro e w12 ⟨v412, rfl, ho0, hb⟩; refine ⟨_, rfl, ?_⟩; have n0_ := Aside0.mk (Kd.V_below (sqV HO406.out) hb); have n1_ := Aside0.mk (Kd.V_below (sqV HO409.out) hb); have n2_ := Aside0.mk (Kd.V_lower (Kd.V_mono (ok' := fun k_ => True) ho0 (fun k_ hk_ => trivial)) (below_size sqB)); have n3_ := Aside0.mk (below_step sqB hb); clear HO406; clear HO409; clear HB; have HO406 := n0_; have HO409 := n1_; have HO413 := n2_; have HB := n3_; clear n0_ n1_ n2_ n3_; (try clear hb); (try clear hb2); (try clear hk); (try clear hi); (try clear ho0)) | ((with_reducible refine gate_callee (f := 28) rfl ?_); refine goesL_ (some 24) rfl rfl Tryz.func28 (by kernel_rfl) rfl #[.int .u64 (IntKind.u64.wrap (a1))] rfl sqA ?_; (with_reducible refine (weigh_natOf.calls k (IntKind.u64.wrap (a1)) t414 _ A7.out).mono ?_); rintro e w13 ⟨v415, rfl, ho0, hb⟩; refine ⟨_, rfl, ?_⟩; have n0_ := Aside0.mk (Kd.V_below (sqV HO406.out) hb); have n1_ := Aside0.mk (Kd.V_below (sqV HO409.out) hb); have n2_ := Aside0.mk (Kd.V_below (sqV HO413.out) hb); have n3_ := Aside0.mk (Kd.V_lower (Kd.V_mono (ok' := fun k_ => True) ho0 (fun k_ hk_ => trivial)) (below_size sqB)); have n4_ := Aside0.mk (below_step sqB hb); clear HO406; clear HO409; clear HO413; clear HB; have HO406 := n0_; have HO409 := n1_; have HO413 := n2_; have HO416 := n3_; have HB := n4_; clear n0_ n1_ n2_ n3_ n4_; (try clear hb); (try clear hb2); (try clear hk); (try clear hi); (try clear ho0); obtain ⟨Ao14, co14, eo14⟩ := Kd.V_slice HO413.out; subst eo14; obtain ⟨Ao15, co15, eo15⟩ := Kd.V_slice HO416.out; subst eo15) | ((with_reducible refine gate_callee (f := 27) rfl ?_); refine goesL_ (some 25) rfl rfl Tryz.func27 (by kernel_rfl) rfl #[.slice Ao14 t411.length co14, .slice Ao15 t414.length co15, .int .i64 (-1074)] rfl sqA ?_; (with_reducible refine (weigh_rounded.calls k _ _ t411 _ _ t414 (-1074) t417 _ ?side1 ?side2 ?side3 ?side4 A8.out).mono ?_); (case side1 => repeat (first | exact (Kd.V_reads' HO413.out).2.2 | (with_reducible refine Kd.C_alloc ?_ _) | (with_reducible refine Kd.C_drewN ?_ _) | (with_reducible refine Kd.C_drew ?_))); (case side2 => exact (Kd.V_reads' HO413.out).2.1); (case side3 => repeat (first | exact (Kd.V_reads' HO416.out).2.2 | (with_reducible refine Kd.C_alloc ?_ _) | (with_reducible refine Kd.C_drewN ?_ _) | (with_reducible refine Kd.C_drew ?_))); (case side4 => exact (Kd.V_reads' HO416.out).2.1); rintro e w16 ⟨rfl, hb⟩; refine ⟨_, rfl, ?_⟩; have n0_ := Aside0.mk (Kd.V_below (sqV HO406.out) hb); have n1_ := Aside0.mk (Kd.V_below (sqV HO409.out) hb); have n2_ := Aside0.mk (Kd.V_below (sqV HO413.out) hb); have n3_ := Aside0.mk (Kd.V_below (sqV HO416.out) hb); have n4_ := Aside0.mk (below_step sqB hb); clear HO406; clear HO409; clear HO413; clear HO416; clear HB; have HO406 := n0_; have HO409 := n1_; have HO413 := n2_; have HO416 := n3_; have HB := n4_; clear n0_ n1_ n2_ n3_ n4_; (try clear hb); (try clear hb2); (try clear hk); (try clear hi)))
  go_ret
  exact ⟨sqE', sqB⟩
 rw [if_neg c5] at H
 have c5b0 := decide_eq_false c5
 clear c5
 by_cases c17 : t410 < 0
 case neg =>
  rw [if_neg c17] at H
  have c17b0 := decide_eq_false c17
  clear c17
  obtain rfl := Option.some.inj H
  go_enter Tryz.func45, Tryz.ntmps45
  go_wp2_with (first | ((with_reducible refine gate_callee (f := 82) rfl ?_); refine goesL_ (some 10) rfl rfl Tryz.func82 (by kernel_rfl) rfl #[.slice A0 l0.length c0] rfl sqA ?_; (with_reducible refine (weigh_whole.calls k _ _ l0 t404 t407 _ ?side1 ?side2 A3.out).mono ?_); (case side1 => repeat (first | exact HR0.out | (with_reducible refine Kd.C_alloc ?_ _) | (with_reducible refine Kd.C_drewN ?_ _) | (with_reducible refine Kd.C_drew ?_))); (case side2 => exact HC0.out); rintro e w29 ⟨v405, v408, rfl, ho0, ho1, hb⟩; refine ⟨_, rfl, ?_⟩; have n0_ := Aside0.mk (Kd.V_lower (Kd.V_mono (ok' := fun k_ => True) ho0 (fun k_ hk_ => trivial)) (below_size sqB)); have n1_ := Aside0.mk (Kd.V_lower (Kd.V_mono (ok' := fun k_ => True) ho1 (fun k_ hk_ => trivial)) (below_size sqB)); have n2_ := Aside0.mk (below_step sqB hb); clear HB; have HO406 := n0_; have HO409 := n1_; have HB := n2_; clear n0_ n1_ n2_; (try clear hb); (try clear hb2); (try clear hk); (try clear hi); (try clear ho0); (try clear ho1); obtain ⟨Ao30, co30, eo30⟩ := Kd.V_slice HO406.out; subst eo30; obtain ⟨Ao31, co31, eo31⟩ := Kd.V_slice HO409.out; subst eo31) | ((with_reducible refine gate_callee (f := 53) rfl ?_); refine goesL_ (some 15) rfl rfl Tryz.func53 (by kernel_rfl) rfl #[.slice Ao30 t404.length co30, .slice Ao31 t407.length co31] rfl sqA ?_; (with_reducible refine (weigh_nat_compare.calls k _ _ t404 _ _ t407 t410 _ ?side1 ?side2 ?side3 ?side4 A4.out).mono ?_); (case side1 => repeat (first | exact (Kd.V_reads' HO406.out).2.2 | (with_reducible refine Kd.C_alloc ?_ _) | (with_reducible refine Kd.C_drewN ?_ _) | (with_reducible refine Kd.C_drew ?_))); (case side2 => exact (Kd.V_reads' HO406.out).2.1); (case side3 => repeat (first | exact (Kd.V_reads' HO409.out).2.2 | (with_reducible refine Kd.C_alloc ?_ _) | (with_reducible refine Kd.C_drewN ?_ _) | (with_reducible refine Kd.C_drew ?_))); (case side4 => exact (Kd.V_reads' HO409.out).2.1); rintro e w' ⟨rfl, ⟨nd, rfl⟩⟩; refine ⟨_, rfl, ?_⟩))
  go_ret
  exact ⟨sqE', sqB⟩
 rw [if_pos c17] at H
 have c17b0 := decide_eq_true c17
 clear c17
 obtain ⟨t418, A18, H⟩ := sqO H
 try dsimp only at H
 obtain ⟨t421, A19, H⟩ := sqO H
 try dsimp only at H
 obtain ⟨t424, A20, H⟩ := sqO H
 try dsimp only at H
 obtain rfl := Option.some.inj H
 go_enter Tryz.func45, Tryz.ntmps45
 go_wp2_with (first | ((with_reducible refine gate_callee (f := 82) rfl ?_); refine goesL_ (some 10) rfl rfl Tryz.func82 (by kernel_rfl) rfl #[.slice A0 l0.length c0] rfl sqA ?_; (with_reducible refine (weigh_whole.calls k _ _ l0 t404 t407 _ ?side1 ?side2 A3.out).mono ?_); (case side1 => repeat (first | exact HR0.out | (with_reducible refine Kd.C_alloc ?_ _) | (with_reducible refine Kd.C_drewN ?_ _) | (with_reducible refine Kd.C_drew ?_))); (case side2 => exact HC0.out); rintro e w21 ⟨v405, v408, rfl, ho0, ho1, hb⟩; refine ⟨_, rfl, ?_⟩; have n0_ := Aside0.mk (Kd.V_lower (Kd.V_mono (ok' := fun k_ => True) ho0 (fun k_ hk_ => trivial)) (below_size sqB)); have n1_ := Aside0.mk (Kd.V_lower (Kd.V_mono (ok' := fun k_ => True) ho1 (fun k_ hk_ => trivial)) (below_size sqB)); have n2_ := Aside0.mk (below_step sqB hb); clear HB; have HO406 := n0_; have HO409 := n1_; have HB := n2_; clear n0_ n1_ n2_; (try clear hb); (try clear hb2); (try clear hk); (try clear hi); (try clear ho0); (try clear ho1); obtain ⟨Ao22, co22, eo22⟩ := Kd.V_slice HO406.out; subst eo22; obtain ⟨Ao23, co23, eo23⟩ := Kd.V_slice HO409.out; subst eo23) | ((with_reducible refine gate_callee (f := 53) rfl ?_); refine goesL_ (some 15) rfl rfl Tryz.func53 (by kernel_rfl) rfl #[.slice Ao22 t404.length co22, .slice Ao23 t407.length co23] rfl sqA ?_; (with_reducible refine (weigh_nat_compare.calls k _ _ t404 _ _ t407 t410 _ ?side1 ?side2 ?side3 ?side4 A4.out).mono ?_); (case side1 => repeat (first | exact (Kd.V_reads' HO406.out).2.2 | (with_reducible refine Kd.C_alloc ?_ _) | (with_reducible refine Kd.C_drewN ?_ _) | (with_reducible refine Kd.C_drew ?_))); (case side2 => exact (Kd.V_reads' HO406.out).2.1); (case side3 => repeat (first | exact (Kd.V_reads' HO409.out).2.2 | (with_reducible refine Kd.C_alloc ?_ _) | (with_reducible refine Kd.C_drewN ?_ _) | (with_reducible refine Kd.C_drew ?_))); (case side4 => exact (Kd.V_reads' HO409.out).2.1); rintro e w' ⟨rfl, ⟨nd, rfl⟩⟩; refine ⟨_, rfl, ?_⟩) | ((with_reducible refine gate_callee (f := 83) rfl ?_); refine goesL_ (some 31) rfl rfl Tryz.func83 (by kernel_rfl) rfl #[.slice Ao23 t407.length co23, .slice Ao22 t404.length co22] rfl sqA ?_; (with_reducible refine (weigh_nat_less.calls k _ _ t407 _ _ t404 t418 _ ?side1 ?side2 ?side3 ?side4 A18.out).mono ?_); (case side1 => repeat (first | exact (Kd.V_reads' HO409.out).2.2 | (with_reducible refine Kd.C_alloc ?_ _) | (with_reducible refine Kd.C_drewN ?_ _) | (with_reducible refine Kd.C_drew ?_))); (case side2 => exact (Kd.V_reads' HO409.out).2.1); (case side3 => repeat (first | exact (Kd.V_reads' HO406.out).2.2 | (with_reducible refine Kd.C_alloc ?_ _) | (with_reducible refine Kd.C_drewN ?_ _) | (with_reducible refine Kd.C_drew ?_))); (case side4 => exact (Kd.V_reads' HO406.out).2.1); rintro e w24 ⟨v419, rfl, ho0, hb⟩; refine ⟨_, rfl, ?_⟩; have n0_ := Aside0.mk (Kd.V_below (sqV HO406.out) hb); have n1_ := Aside0.mk (Kd.V_below (sqV HO409.out) hb); have n2_ := Aside0.mk (Kd.V_lower (Kd.V_mono (ok' := fun k_ => True) ho0 (fun k_ hk_ => trivial)) (below_size sqB)); have n3_ := Aside0.mk (below_step sqB hb); clear HO406; clear HO409; clear HB; have HO406 := n0_; have HO409 := n1_; have HO420 := n2_; have HB := n3_; clear n0_ n1_ n2_ n3_; (try clear hb); (try clear hb2); (try clear hk); (try clear hi); (try clear ho0)) | ((with_reducible refine gate_callee (f := 28) rfl ?_); refine goesL_ (some 34) rfl rfl Tryz.func28 (by kernel_rfl) rfl #[.int .u64 (IntKind.u64.wrap (a1))] rfl sqA ?_; (with_reducible refine (weigh_natOf.calls k (IntKind.u64.wrap (a1)) t421 _ A19.out).mono ?_); rintro e w25 ⟨v422, rfl, ho0, hb⟩; refine ⟨_, rfl, ?_⟩; have n0_ := Aside0.mk (Kd.V_below (sqV HO406.out) hb); have n1_ := Aside0.mk (Kd.V_below (sqV HO409.out) hb); have n2_ := Aside0.mk (Kd.V_below (sqV HO420.out) hb); have n3_ := Aside0.mk (Kd.V_lower (Kd.V_mono (ok' := fun k_ => True) ho0 (fun k_ hk_ => trivial)) (below_size sqB)); have n4_ := Aside0.mk (below_step sqB hb); clear HO406; clear HO409; clear HO420; clear HB; have HO406 := n0_; have HO409 := n1_; have HO420 := n2_; have HO423 := n3_; have HB := n4_; clear n0_ n1_ n2_ n3_ n4_; (try clear hb); (try clear hb2); (try clear hk); (try clear hi); (try clear ho0); obtain ⟨Ao26, co26, eo26⟩ := Kd.V_slice HO420.out; subst eo26; obtain ⟨Ao27, co27, eo27⟩ := Kd.V_slice HO423.out; subst eo27) | ((with_reducible refine gate_callee (f := 27) rfl ?_); refine goesL_ (some 35) rfl rfl Tryz.func27 (by kernel_rfl) rfl #[.slice Ao26 t418.length co26, .slice Ao27 t421.length co27, .int .i64 (-1074)] rfl sqA ?_; (with_reducible refine (weigh_rounded.calls k _ _ t418 _ _ t421 (-1074) t424 _ ?side1 ?side2 ?side3 ?side4 A20.out).mono ?_); (case side1 => repeat (first | exact (Kd.V_reads' HO420.out).2.2 | (with_reducible refine Kd.C_alloc ?_ _) | (with_reducible refine Kd.C_drewN ?_ _) | (with_reducible refine Kd.C_drew ?_))); (case side2 => exact (Kd.V_reads' HO420.out).2.1); (case side3 => repeat (first | exact (Kd.V_reads' HO423.out).2.2 | (with_reducible refine Kd.C_alloc ?_ _) | (with_reducible refine Kd.C_drewN ?_ _) | (with_reducible refine Kd.C_drew ?_))); (case side4 => exact (Kd.V_reads' HO423.out).2.1); rintro e w28 ⟨rfl, hb⟩; refine ⟨_, rfl, ?_⟩; have n0_ := Aside0.mk (Kd.V_below (sqV HO406.out) hb); have n1_ := Aside0.mk (Kd.V_below (sqV HO409.out) hb); have n2_ := Aside0.mk (Kd.V_below (sqV HO420.out) hb); have n3_ := Aside0.mk (Kd.V_below (sqV HO423.out) hb); have n4_ := Aside0.mk (below_step sqB hb); clear HO406; clear HO409; clear HO420; clear HO423; clear HB; have HO406 := n0_; have HO409 := n1_; have HO420 := n2_; have HO423 := n3_; have HB := n4_; clear n0_ n1_ n2_ n3_ n4_; (try clear hb); (try clear hb2); (try clear hk); (try clear hi)))
 go_ret
 exact ⟨sqE', sqB⟩
mutual
def weigh_Exact.l0 : Nat → List Nat → Bool → Bool → List Nat → Int → Int → Option (Nat)
 | 0, _, _, _, _, _, _ => none
 | k + 1, x3, x4, x5, x8, x9, x10 => if x10 < x9 then (if 0 ≤ x10 then (if x10 < (x8.length : Int) then (if (FloatKind.f64.format.order (rdOf 0 x8 x10) (rdOf 0 x8 x10) != some .eq) = true then ((api_Float.f 9221120237041090560).bind fun t426 => (some t426)) else ((math_IsInf.f (rdOf 0 x8 x10) 1).bind fun t427 => (if t427 = true then (weigh_Exact.l0 k x3 true x5 x8 x9 (wrap64 (x10 + 1))) else ((math_IsInf.f (rdOf 0 x8 x10) (-1)).bind fun t428 => (if t428 = true then (weigh_Exact.l0 k x3 x4 true x8 x9 (wrap64 (x10 + 1))) else (if x3.length < 17592186044416 then (weigh_Exact.l0 k (x3 ++ [rdOf 0 x8 x10]) x4 x5 x8 x9 (wrap64 (x10 + 1))) else (none))))))) else (none)) else (none)) else (if x4 = true then (weigh_Exact.j1 k x3 x4 x5 x5) else (weigh_Exact.j1 k x3 x4 x5 false))
def weigh_Exact.j1 : Nat → List Nat → Bool → Bool → Bool → Option (Nat)
 | 0, _, _, _, _ => none
 | k + 1, x3, x4, x5, x30 => if x30 = true then ((api_Float.f 9221120237041090560).bind fun t432 => (some t432)) else (if x4 = true then ((math_Inf.f 1).bind fun t433 => (some t433)) else (if x5 = true then ((math_Inf.f (-1)).bind fun t434 => (some t434)) else ((weigh_shared.f k x3 1).bind fun t435 => (some t435))))
end
def weigh_Exact.f (k : Nat) (l0 : List Nat) : Option (Nat) := weigh_Exact.l0 k ([] : List Nat) false false l0 (l0.length : Int) 0
theorem weigh_Exact.mono_l : ∀ k, (∀ y0 y1 y2 y3 y4 y5, LeO (weigh_Exact.l0 k y0 y1 y2 y3 y4 y5) (weigh_Exact.l0 (k + 1) y0 y1 y2 y3 y4 y5)) ∧ (∀ y0 y1 y2 y3, LeO (weigh_Exact.j1 k y0 y1 y2 y3) (weigh_Exact.j1 (k + 1) y0 y1 y2 y3))
 | 0 => ⟨fun _ _ _ _ _ _ r h => by simp [weigh_Exact.l0] at h, fun _ _ _ _ r h => by simp [weigh_Exact.j1] at h⟩
 | k + 1 => by
  obtain ⟨ih0, ih1⟩ := weigh_Exact.mono_l k
  refine ⟨?_, ?_⟩
  ·intro y0 y1 y2 y3 y4 y5
   unfold weigh_Exact.l0
   repeat' first | (with_reducible first | apply ih0 | apply ih1 | apply weigh_shared.mono | apply LeO.refl | apply LeO.none | refine LeO.ite ?_ ?_ | refine LeO.bind ?_ (fun _ => ?_)) | apply LeO.none | refine LeO.ite ?_ ?_ | refine LeO.bind ?_ (fun _ => ?_)
  intro y0 y1 y2 y3
  unfold weigh_Exact.j1
  repeat' first | (with_reducible first | apply ih0 | apply ih1 | apply weigh_shared.mono | apply LeO.refl | apply LeO.none | refine LeO.ite ?_ ?_ | refine LeO.bind ?_ (fun _ => ?_)) | apply LeO.none | refine LeO.ite ?_ ?_ | refine LeO.bind ?_ (fun _ => ?_)
theorem weigh_Exact.mono : ∀ a0 k, LeO (weigh_Exact.f k a0) (weigh_Exact.f (k + 1) a0) := by
 intro a0 k
 obtain ⟨ih0, ih1⟩ := weigh_Exact.mono_l k
 unfold weigh_Exact.f
 repeat' first | (with_reducible first | apply ih0 | apply ih1 | apply weigh_shared.mono | apply LeO.refl | apply LeO.none | refine LeO.ite ?_ ?_ | refine LeO.bind ?_ (fun _ => ?_)) | apply LeO.none | refine LeO.ite ?_ ?_ | refine LeO.bind ?_ (fun _ => ?_)
theorem weigh_Exact.calls (k : Nat) (A0 : Option Addr) (c0 : Nat) (l0 : List Nat) (r : Nat) (w : World) (hr0 : Kd.C Kd.flt w A0 l0.length l0) (hc0 : l0.length ≤ c0) (h : weigh_Exact.f k l0 = some r) :
  Calls Tryz.prog 17 #[.slice A0 l0.length c0] w fun e w' => e = .returned (.float .f64 r) ∧ Below w.heap.size w w' := by
 have HR0 := Aside0.mk hr0
 have HC0 := Aside0.mk hc0
 clear hr0 hc0
 have HB := Aside0.mk (Below.refl w.heap.size w)
 have H : (weigh_Exact.l0 k ([] : List Nat) false false l0 (l0.length : Int) 0) = some r := h
 clear h
 have H' := Aside0.mk H
 clear H
 go_enter Tryz.func17, Tryz.ntmps17
 go_wp2
 go_loopg [3, 4, 5, 10] k (fun kq v3 v4 v5 v10 w' => ∃ (x3_1 : List Nat) (x4_1 : Bool) (x5_1 : Bool) (x10_1 : Int), v4 = .bool x4_1 ∧ v5 = .bool x5_1 ∧ v10 = .int .i64 x10_1 ∧ Aside0 (weigh_Exact.l0 kq x3_1 x4_1 x5_1 l0 (l0.length : Int) x10_1 = some r) ∧ Aside0 (kq ≤ k) ∧ Aside0 (Kd.R Kd.flt 22 w' w.heap.size (fun _ => True) v3 x3_1) ∧ Aside0 (Below w.heap.size w w'))
 case atStart => exact ⟨(([] : List Nat)), (false), (false), (0), sqE, sqE, sqE, H', ⟨Nat.le_refl _⟩, ⟨by first | exact Kd.R_nil _ _ _ _ _ | exact Kd.N_nil _ _ _ _ _ | exact Kd.V_nil _ _ _ _ _ | exact Kd.Q_nil _ _ _ _ _ | exact Kd.S_nil _ _ _ _ _⟩, ⟨sqB⟩⟩
 case round =>
  clear H'
  try clear c1
  obtain ⟨x3_1, x4_1, x5_1, x10_1, rfl, rfl, rfl, HA, HK1, HO_3, HB⟩ := hrel
  cases gk with
  | zero => exact absurd HA.out (by simp [weigh_Exact.l0])
  | succ k1 =>
   have H := HA.out
   clear HA
   simp only [weigh_Exact.l0] at H
   by_cases c2 : x10_1 < (l0.length : Int)
   ·rw [if_pos c2] at H
    have c2b0 := decide_eq_true c2
    clear c2
    by_cases c3 : 0 ≤ x10_1
    case neg => rw [if_neg c3] at H; exact absurd H (by simp)
    rw [if_pos c3] at H
    have c3b0 := decide_eq_true c3
    clear c3
    by_cases c4 : x10_1 < (l0.length : Int)
    case neg => rw [if_neg c4] at H; exact absurd H (by simp)
    rw [if_pos c4] at H
    have c4b0 := decide_eq_true c4
    clear c4
    by_cases c5 : (FloatKind.f64.format.order (rdOf 0 l0 x10_1) (rdOf 0 l0 x10_1) != some .eq) = true
    ·rw [if_pos c5] at H
     have c5b0 : (FloatKind.f64.format.order (rdOf 0 l0 x10_1) (rdOf 0 l0 x10_1) != some .eq) = true := c5
     (try (have c5b1 : decide (FloatKind.f64.format.order (rdOf 0 l0 x10_1) (rdOf 0 l0 x10_1) = some .eq) = false := by simpa using c5))
     (try (have c5b2 : (FloatKind.f64.format.order (rdOf 0 l0 x10_1) (rdOf 0 l0 x10_1) == some .eq) = false := by simpa using c5))
     (try (have c5b3 : ¬ (FloatKind.f64.format.order (rdOf 0 l0 x10_1) (rdOf 0 l0 x10_1) = some .eq) := by simpa using c5))
     clear c5
     obtain ⟨t426, A6, H⟩ := sqO H
     try dsimp only at H
     obtain rfl := Option.some.inj H
     have p425 : 0 ≤ (x10_1 : Int) := sqD
     have q425 : x10_1 < (l0.length : Int) := sqD
     obtain ⟨ad425, e425, hx425_0⟩ := Kd.at_flt HR0.out x10_1 p425 q425
     cases e425
     replace hx425_0 := (HB.out.cell (World.block_lt_of_cell? w _ hx425_0)).trans hx425_0
     replace p425 := eq_true p425
     replace q425 := eq_true q425
     go_wp2_with (first | ((with_reducible refine gate_callee (f := 12) rfl ?_); refine goesL_ (some 22) rfl rfl Tryz.func12 (by kernel_rfl) rfl #[.int .u64 9221120237041090560] rfl sqA ?_; (with_reducible refine (api_Float.calls 9221120237041090560 t426 _ A6.out).mono ?_); rintro e w' ⟨rfl, ⟨nd, rfl⟩⟩; refine ⟨_, rfl, ?_⟩))
     go_ret
     exact ⟨sqE', sqB⟩
    rw [if_neg c5] at H
    have c5b0 : (FloatKind.f64.format.order (rdOf 0 l0 x10_1) (rdOf 0 l0 x10_1) != some .eq) = false := by simpa using c5
    (try (have c5b1 : decide (FloatKind.f64.format.order (rdOf 0 l0 x10_1) (rdOf 0 l0 x10_1) = some .eq) = true := by simpa using c5))
    (try (have c5b2 : (FloatKind.f64.format.order (rdOf 0 l0 x10_1) (rdOf 0 l0 x10_1) == some .eq) = true := by simpa using c5))
    clear c5
    obtain ⟨t427, A7, H⟩ := sqO H
    try dsimp only at H
    by_cases c8 : t427 = true
    ·subst c8
     have H1 : (weigh_Exact.l0 k1 x3_1 true x5_1 l0 (l0.length : Int) (wrap64 (x10_1 + 1))) = some r := by rw [if_pos rfl] at H; exact H
     clear H
     have H := H1
     clear H1
     have H' := Aside0.mk H
     clear H
     have p425 : 0 ≤ (x10_1 : Int) := sqD
     have q425 : x10_1 < (l0.length : Int) := sqD
     obtain ⟨ad425, e425, hx425_0⟩ := Kd.at_flt HR0.out x10_1 p425 q425
     cases e425
     replace hx425_0 := (HB.out.cell (World.block_lt_of_cell? w _ hx425_0)).trans hx425_0
     replace p425 := eq_true p425
     replace q425 := eq_true q425
     go_wp2_with (first | ((with_reducible refine gate_callee (f := 30) rfl ?_); refine goesL_ (some 25) rfl rfl Tryz.func30 (by kernel_rfl) rfl #[.float .f64 (rdOf 0 l0 x10_1), .int .i64 1] rfl sqA ?_; (with_reducible refine (math_IsInf.calls (rdOf 0 l0 x10_1) 1 true _ A7.out).mono ?_); rintro e w' ⟨rfl, ⟨nd, rfl⟩⟩; refine ⟨_, rfl, ?_⟩))
     go_roundg k1
     case measure => have := HK1.out; omega
     case rel => exact ⟨(x3_1), (true), (x5_1), (wrap64 (x10_1 + 1)), sqE, sqE, sqE, H', ⟨by have := HK1.out; omega⟩, ⟨sqR HO_3.out⟩, ⟨sqB⟩⟩
    replace c8 := Bool.eq_false_iff.mpr c8
    subst c8
    have H1 : ((math_IsInf.f (rdOf 0 l0 x10_1) (-1)).bind fun t428 => (if t428 = true then (weigh_Exact.l0 k1 x3_1 x4_1 true l0 (l0.length : Int) (wrap64 (x10_1 + 1))) else (if x3_1.length < 17592186044416 then (weigh_Exact.l0 k1 (x3_1 ++ [rdOf 0 l0 x10_1]) x4_1 x5_1 l0 (l0.length : Int) (wrap64 (x10_1 + 1))) else (none)))) = some r := by rw [if_neg (show ¬ (false = true) by decide)] at H; exact H
    clear H
    have H := H1
    clear H1
    obtain ⟨t428, A9, H⟩ := sqO H
    try dsimp only at H
    by_cases c10 : t428 = true
    ·subst c10
     have H1 : (weigh_Exact.l0 k1 x3_1 x4_1 true l0 (l0.length : Int) (wrap64 (x10_1 + 1))) = some r := by rw [if_pos rfl] at H; exact H
     clear H
     have H := H1
     clear H1
     have H' := Aside0.mk H
     clear H
     have p425 : 0 ≤ (x10_1 : Int) := sqD
     have q425 : x10_1 < (l0.length : Int) := sqD
     obtain ⟨ad425, e425, hx425_0⟩ := Kd.at_flt HR0.out x10_1 p425 q425
     cases e425
     replace hx425_0 := (HB.out.cell (World.block_lt_of_cell? w _ hx425_0)).trans hx425_0
     replace p425 := eq_true p425
     replace q425 := eq_true q425
     go_wp2_with (first | ((with_reducible refine gate_callee (f := 30) rfl ?_); refine goesL_ (some 25) rfl rfl Tryz.func30 (by kernel_rfl) rfl #[.float .f64 (rdOf 0 l0 x10_1), .int .i64 1] rfl sqA ?_; (with_reducible refine (math_IsInf.calls (rdOf 0 l0 x10_1) 1 false _ A7.out).mono ?_); rintro e w' ⟨rfl, ⟨nd, rfl⟩⟩; refine ⟨_, rfl, ?_⟩) | ((with_reducible refine gate_callee (f := 30) rfl ?_); refine goesL_ (some 28) rfl rfl Tryz.func30 (by kernel_rfl) rfl #[.float .f64 (rdOf 0 l0 x10_1), .int .i64 (-1)] rfl sqA ?_; (with_reducible refine (math_IsInf.calls (rdOf 0 l0 x10_1) (-1) true _ A9.out).mono ?_); rintro e w' ⟨rfl, ⟨nd, rfl⟩⟩; refine ⟨_, rfl, ?_⟩))
     go_roundg k1
     case measure => have := HK1.out; omega
     case rel => exact ⟨(x3_1), (x4_1), (true), (wrap64 (x10_1 + 1)), sqE, sqE, sqE, H', ⟨by have := HK1.out; omega⟩, ⟨sqR HO_3.out⟩, ⟨sqB⟩⟩
    replace c10 := Bool.eq_false_iff.mpr c10
    subst c10
    have H1 : (if x3_1.length < 17592186044416 then (weigh_Exact.l0 k1 (x3_1 ++ [rdOf 0 l0 x10_1]) x4_1 x5_1 l0 (l0.length : Int) (wrap64 (x10_1 + 1))) else (none)) = some r := by rw [if_neg (show ¬ (false = true) by decide)] at H; exact H
    clear H
    have H := H1
    clear H1
    by_cases c11 : x3_1.length < 17592186044416
    case neg => rw [if_neg c11] at H; exact absurd H (by simp)
    rw [if_pos c11] at H
    have LMc11 := Aside0.mk c11
    clear c11
    obtain ⟨y429, hy429⟩ : ∃ y_ : List Nat, y_ = (x3_1 ++ [rdOf 0 l0 x10_1]) := ⟨_, rfl⟩
    replace H : (weigh_Exact.l0 k1 y429 x4_1 x5_1 l0 (l0.length : Int) (wrap64 (x10_1 + 1))) = some r := by first | (rw [hy429]; with_reducible exact H) | (have H2_ := (Option.bind_some _ _).symm.trans H; rw [hy429]; with_reducible exact H2_) | (have H2_ := (Option.bind_some _ _).symm.trans H; with_reducible exact H2_) | with_reducible exact H | (rw [hy429]; exact H) | exact H
    have Ny429 := Aside0.mk hy429
    clear hy429
    have H' := Aside0.mk H
    clear H
    have p425 : 0 ≤ (x10_1 : Int) := sqD
    have q425 : x10_1 < (l0.length : Int) := sqD
    obtain ⟨ad425, e425, hx425_0⟩ := Kd.at_flt HR0.out x10_1 p425 q425
    cases e425
    replace hx425_0 := (HB.out.cell (World.block_lt_of_cell? w _ hx425_0)).trans hx425_0
    replace p425 := eq_true p425
    replace q425 := eq_true q425
    go_wp2_with (first | ((with_reducible refine gate_callee (f := 30) rfl ?_); refine goesL_ (some 25) rfl rfl Tryz.func30 (by kernel_rfl) rfl #[.float .f64 (rdOf 0 l0 x10_1), .int .i64 1] rfl sqA ?_; (with_reducible refine (math_IsInf.calls (rdOf 0 l0 x10_1) 1 false _ A7.out).mono ?_); rintro e w' ⟨rfl, ⟨nd, rfl⟩⟩; refine ⟨_, rfl, ?_⟩) | ((with_reducible refine gate_callee (f := 30) rfl ?_); refine goesL_ (some 28) rfl rfl Tryz.func30 (by kernel_rfl) rfl #[.float .f64 (rdOf 0 l0 x10_1), .int .i64 (-1)] rfl sqA ?_; (with_reducible refine (math_IsInf.calls (rdOf 0 l0 x10_1) (-1) false _ A9.out).mono ?_); rintro e w' ⟨rfl, ⟨nd, rfl⟩⟩; refine ⟨_, rfl, ?_⟩) | ((with_reducible refine gate_builtin (b := .append) (xs := #[.tmp 14, .tmp 16]) rfl ?_); at_builtin; refine Kd.R_append Kd.flt (w0 := w) w.heap.size rfl (.tmp 14) (.tmp 16) 37 22 (.float .f64 0) 8 rfl Tryz.underlying37 info22 rfl (by decide) (by omega) u3 x3_1 (rdOf 0 l0 x10_1) [.float .f64 (rdOf 0 l0 x10_1)] (fun _ => True) (fun _ => False) rfl rfl ?aP (fun _ hk => hk.elim) ?aF ?aO ?aB ?aS ?aL ?_; (case aP => exact rfl); (case aB => exact sqB); (case aF => exact (fun _ _ => trivial)); (case aO => exact (sqR HO_3.out)); (case aS => exact (below_size sqB)); (case aL => have := LMc11.out; omega); intro v430 w12 ho hb hg hat; rw [← Ny429.out] at ho; have n0_ := Aside0.mk (hb); have n1_ := Aside0.mk (ho); clear HB; clear HO_3; have HB := n0_; have HO431 := n1_; clear n0_ n1_; clear ho hb hg hat))
    go_roundg k1
    case measure => have := HK1.out; omega
    case rel => exact ⟨(y429), (x4_1), (x5_1), (wrap64 (x10_1 + 1)), sqE, sqE, sqE, H', ⟨by have := HK1.out; omega⟩, ⟨sqR HO431.out⟩, ⟨sqB⟩⟩
   rw [if_neg c2] at H
   have c2b0 := decide_eq_false c2
   clear c2
   have HC13 := Aside0.mk H
   clear H
   go_upto_region 14 with (fail)
   go_cut [30] (fun v30 wc => ∃ (kq : Nat) (x30_12 : Bool), v30 = .bool x30_12 ∧ Aside0 (weigh_Exact.j1 kq x3_1 x4_1 x5_1 x30_12 = some r) ∧ Aside0 (kq ≤ k1) ∧ Aside0 (Kd.R Kd.flt 22 wc w.heap.size (fun _ => True) u3 x3_1) ∧ Aside0 (Below w.heap.size w wc))
   case first =>
    have H := HC13.out
    clear HC13
    by_cases c14 : x4_1 = true
    ·subst c14
     have H1 : (weigh_Exact.j1 k1 x3_1 true x5_1 x5_1) = some r := by rw [if_pos rfl] at H; exact H
     clear H
     have H := H1
     clear H1
     have H' := Aside0.mk H
     clear H
     go_wp2
     go_meet
     case rel => exact ⟨_, (x5_1), sqE, H', ⟨by have := HK1.out; first | omega | exact Nat.le_refl _⟩, ⟨sqR HO_3.out⟩, ⟨sqB⟩⟩
    replace c14 := Bool.eq_false_iff.mpr c14
    subst c14
    have H1 : (weigh_Exact.j1 k1 x3_1 false x5_1 false) = some r := by rw [if_neg (show ¬ (false = true) by decide)] at H; exact H
    clear H
    have H := H1
    clear H1
    have H' := Aside0.mk H
    clear H
    go_wp2
    go_meet
    case rel => exact ⟨_, (false), sqE, H', ⟨by have := HK1.out; first | omega | exact Nat.le_refl _⟩, ⟨sqR HO_3.out⟩, ⟨sqB⟩⟩
   case rest =>
    clear HC13
    try clear c1
    try clear c2
    try clear c2b0
    try clear p2
    try clear c3
    try clear c3b0
    try clear c4
    try clear c4b0
    try clear p4
    try clear q4
    try clear hx4
    try clear c5
    try clear c5b0
    try clear c5b1
    try clear c5b2
    try clear p6
    try clear c8
    try clear c10
    try clear c11
    try clear c12
    try clear c14
    try clear hx425_0
    try clear p425
    try clear q425
    obtain ⟨kq, x30_12, rfl, HA, HJ12, HO_3, HB⟩ := hcut
    cases kq with
    | zero => exact absurd HA.out (by simp [weigh_Exact.j1])
    | succ kj12 =>
     have H := HA.out
     clear HA
     simp only [weigh_Exact.j1] at H
     by_cases c15 : x30_12 = true
     ·subst c15
      have H1 : ((api_Float.f 9221120237041090560).bind fun t432 => (some t432)) = some r := by rw [if_pos rfl] at H; exact H
      clear H
      have H := H1
      clear H1
      obtain ⟨t432, A16, H⟩ := sqO H
      try dsimp only at H
      obtain rfl := Option.some.inj H
      go_wp2_with (first | ((with_reducible refine gate_callee (f := 12) rfl ?_); refine goesL_ (some 35) rfl rfl Tryz.func12 (by kernel_rfl) rfl #[.int .u64 9221120237041090560] rfl sqA ?_; (with_reducible refine (api_Float.calls 9221120237041090560 t432 _ A16.out).mono ?_); rintro e w' ⟨rfl, ⟨nd, rfl⟩⟩; refine ⟨_, rfl, ?_⟩))
      go_ret
      exact ⟨sqE', sqB⟩
     replace c15 := Bool.eq_false_iff.mpr c15
     subst c15
     have H1 : (if x4_1 = true then ((math_Inf.f 1).bind fun t433 => (some t433)) else (if x5_1 = true then ((math_Inf.f (-1)).bind fun t434 => (some t434)) else ((weigh_shared.f kj12 x3_1 1).bind fun t435 => (some t435)))) = some r := by rw [if_neg (show ¬ (false = true) by decide)] at H; exact H
     clear H
     have H := H1
     clear H1
     by_cases c17 : x4_1 = true
     ·subst c17
      have H1 : ((math_Inf.f 1).bind fun t433 => (some t433)) = some r := by rw [if_pos rfl] at H; exact H
      clear H
      have H := H1
      clear H1
      obtain ⟨t433, A18, H⟩ := sqO H
      try dsimp only at H
      obtain rfl := Option.some.inj H
      go_wp2_with (first | ((with_reducible refine gate_callee (f := 24) rfl ?_); refine goesL_ (some 38) rfl rfl Tryz.func24 (by kernel_rfl) rfl #[.int .i64 1] rfl sqA ?_; (with_reducible refine (math_Inf.calls 1 t433 _ A18.out).mono ?_); rintro e w' ⟨rfl, ⟨nd, rfl⟩⟩; refine ⟨_, rfl, ?_⟩))
      go_ret
      exact ⟨sqE', sqB⟩
     replace c17 := Bool.eq_false_iff.mpr c17
     subst c17
     have H1 : (if x5_1 = true then ((math_Inf.f (-1)).bind fun t434 => (some t434)) else ((weigh_shared.f kj12 x3_1 1).bind fun t435 => (some t435))) = some r := by rw [if_neg (show ¬ (false = true) by decide)] at H; exact H
     clear H
     have H := H1
     clear H1
     by_cases c19 : x5_1 = true
     ·subst c19
      have H1 : ((math_Inf.f (-1)).bind fun t434 => (some t434)) = some r := by rw [if_pos rfl] at H; exact H
      clear H
      have H := H1
      clear H1
      obtain ⟨t434, A20, H⟩ := sqO H
      try dsimp only at H
      obtain rfl := Option.some.inj H
      go_wp2_with (first | ((with_reducible refine gate_callee (f := 24) rfl ?_); refine goesL_ (some 41) rfl rfl Tryz.func24 (by kernel_rfl) rfl #[.int .i64 (-1)] rfl sqA ?_; (with_reducible refine (math_Inf.calls (-1) t434 _ A20.out).mono ?_); rintro e w' ⟨rfl, ⟨nd, rfl⟩⟩; refine ⟨_, rfl, ?_⟩))
      go_ret
      exact ⟨sqE', sqB⟩
     replace c19 := Bool.eq_false_iff.mpr c19
     subst c19
     have H1 : ((weigh_shared.f kj12 x3_1 1).bind fun t435 => (some t435)) = some r := by rw [if_neg (show ¬ (false = true) by decide)] at H; exact H
     clear H
     have H := H1
     clear H1
     obtain ⟨t435, A21, H⟩ := sqO H
     try dsimp only at H
     obtain rfl := Option.some.inj H
     obtain ⟨Ao22, co22, eo22⟩ := Kd.R_slice HO_3.out
     subst eo22
     go_wp2_with (first | ((with_reducible refine gate_callee (f := 45) rfl ?_); refine goesL_ (some 43) rfl rfl Tryz.func45 (by kernel_rfl) rfl #[.slice Ao22 x3_1.length co22, .int .i64 1] rfl sqA ?_; (with_reducible refine (weigh_shared.calls kj12 _ _ x3_1 1 t435 _ ?side1 ?side2 A21.out).mono ?_); (case side1 => repeat (first | exact (Kd.R_reads' HO_3.out).2.2 | (with_reducible refine Kd.C_alloc ?_ _) | (with_reducible refine Kd.C_drewN ?_ _) | (with_reducible refine Kd.C_drew ?_))); (case side2 => exact (Kd.R_reads' HO_3.out).2.1); rintro e w23 ⟨rfl, hb⟩; refine ⟨_, rfl, ?_⟩; have n0_ := Aside0.mk (Kd.R_below (sqR HO_3.out) hb); have n1_ := Aside0.mk (below_step sqB hb); clear HO_3; clear HB; have HO_3 := n0_; have HB := n1_; clear n0_ n1_; (try clear hb); (try clear hb2); (try clear hk); (try clear hi)))
     go_ret
     exact ⟨sqE', sqB⟩
end Go.Proofs.YtfmjdoofopamkaaGreatDoor.W
