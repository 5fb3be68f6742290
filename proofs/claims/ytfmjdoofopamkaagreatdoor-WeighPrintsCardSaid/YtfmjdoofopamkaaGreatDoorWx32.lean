import Derived.Test.YtfmjdoofopamkaaGreatDoorWx0
import Derived.Test.YtfmjdoofopamkaaGreatDoorWx8
import Derived.Test.YtfmjdoofopamkaaGreatDoorWx10
import Derived.Test.YtfmjdoofopamkaaGreatDoorWx11
import Derived.Test.YtfmjdoofopamkaaGreatDoorWx13
import Derived.Test.YtfmjdoofopamkaaGreatDoorWx14
import Derived.Test.YtfmjdoofopamkaaGreatDoorWx28
import Derived.Test.YtfmjdoofopamkaaGreatDoorWx31
namespace Go.Proofs.YtfmjdoofopamkaaGreatDoor.W
open Go.RowKit Go.Proofs.YtfmjdoofopamkaaGreatDoorW.PrintWords Go.Proofs.YtfmjdoofopamkaaGreatDoorW.PrintLast Go.Proofs.YtfmjdoofopamkaaGreatDoorW.PrintMore
set_option maxHeartbeats 8000000
set_option maxRecDepth 100000
attribute [local go_sem] max2_int min2_int max_two min_two max_three min_three max_four min_four
set_option linter.unusedVariables false
set_option linter.unusedSimpArgs false
mutual
def r2_Shortest.j0 : Nat → Int → List Int → List Int → Option (Int × Int)
 | 0, _, _, _ => none
 | k + 1, x0, x6, x7 => (r2_Length.f k x6).bind fun t794 => ((r2_Length.f k x7).bind fun t795 => (r2_Shortest.l0 k x0 x6 x7 (wrap64 (Int.tdiv (wrap64 ((wrap64 (t794 - t795)) * 30103)) 100000)) 0))
def r2_Shortest.j2 : Nat → Int → List Int → List Int → Int → Option (Int × Int)
 | 0, _, _, _, _ => none
 | k + 1, x0, x6, x7, x8 => r2_Shortest.l1 k x0 x6 x7 x8 0
def r2_Shortest.j4 : Nat → Int → List Int → List Int → Int → Option (Int × Int)
 | 0, _, _, _, _ => none
 | k + 1, x0, x6, x7, x8 => r2_Shortest.l2 k x0 x6 x7 x8 1
def r2_Shortest.l2 : Nat → Int → List Int → List Int → Int → Int → Option (Int × Int)
 | 0, _, _, _, _, _ => none
 | k + 1, x0, x6, x7, x8, x11 => if x11 ≤ 17 then (if (wrap64 ((wrap64 (x8 - x11)) + 1)) ≥ 0 then ((r2_Ten.f k (wrap64 ((wrap64 (x8 - x11)) + 1))).bind fun t798 => ((r2_Product.f k x7 t798).bind fun t801 => (r2_Shortest.j6 k x0 x6 x7 x8 x11 (wrap64 ((wrap64 (x8 - x11)) + 1)) x6 t801))) else ((r2_Ten.f k (wrap64 (-(wrap64 ((wrap64 (x8 - x11)) + 1))))).bind fun t804 => ((r2_Product.f k x6 t804).bind fun t807 => (r2_Shortest.j6 k x0 x6 x7 x8 x11 (wrap64 ((wrap64 (x8 - x11)) + 1)) t807 x7)))) else (some (0, 0))
def r2_Shortest.j6 : Nat → Int → List Int → List Int → Int → Int → Int → List Int → List Int → Option (Int × Int)
 | 0, _, _, _, _, _, _, _, _ => none
 | k + 1, x0, x6, x7, x8, x11, x12, x13, x14 => (r2_Over.f k x13 x14).bind fun bt810 => ((r2_value.f k bt810.1).bind fun t816 => ((r2_reads.f k t816 x12 x0).bind fun t817 => ((r2_reads.f k (IntKind.u64.wrap (t816 + 1)) x12 x0).bind fun t818 => ((r2_Times.f k bt810.2 2 0).bind fun t819 => ((r2_Cmp.f k t819 x14).bind fun t822 => (if t817 = true then (if t818 = true then (if t822 < 0 then (r2_Shortest.j7 k x0 x6 x7 x8 x11 x12 t816 (IntKind.u64.wrap (t816 + 1)) t818 true) else (if t822 = 0 then (r2_Shortest.j7 k x0 x6 x7 x8 x11 x12 t816 (IntKind.u64.wrap (t816 + 1)) t818 ((Int.tmod t816 2) == 0)) else (r2_Shortest.j7 k x0 x6 x7 x8 x11 x12 t816 (IntKind.u64.wrap (t816 + 1)) t818 false))) else (r2_Shortest.j7 k x0 x6 x7 x8 x11 x12 t816 (IntKind.u64.wrap (t816 + 1)) t818 true)) else (r2_Shortest.j7 k x0 x6 x7 x8 x11 x12 t816 (IntKind.u64.wrap (t816 + 1)) t818 false)))))))
def r2_Shortest.j7 : Nat → Int → List Int → List Int → Int → Int → Int → Int → Int → Bool → Bool → Option (Int × Int)
 | 0, _, _, _, _, _, _, _, _, _, _ => none
 | k + 1, x0, x6, x7, x8, x11, x12, x17, x18, x20, x133 => if x133 = true then ((r2_bare.f k x17 x12).bind fun bt823 => (some (bt823.1, bt823.2))) else (if x20 = true then ((r2_bare.f k x18 x12).bind fun bt825 => (some (bt825.1, bt825.2))) else (r2_Shortest.l2 k x0 x6 x7 x8 (wrap64 (x11 + 1))))
def r2_Shortest.l1 : Nat → Int → List Int → List Int → Int → Int → Option (Int × Int)
 | 0, _, _, _, _, _ => none
 | k + 1, x0, x6, x7, x8, x10 => if x10 < 4 then ((r2_scaled.f k x6 x7 (wrap64 (x8 + 1))).bind fun t797 => (if t797 ≥ 0 then (r2_Shortest.l1 k x0 x6 x7 (wrap64 (x8 + 1)) (wrap64 (x10 + 1))) else (r2_Shortest.j4 k x0 x6 x7 x8))) else (r2_Shortest.j4 k x0 x6 x7 x8)
def r2_Shortest.l0 : Nat → Int → List Int → List Int → Int → Int → Option (Int × Int)
 | 0, _, _, _, _, _ => none
 | k + 1, x0, x6, x7, x8, x9 => if x9 < 4 then ((r2_scaled.f k x6 x7 x8).bind fun t796 => (if t796 < 0 then (r2_Shortest.l0 k x0 x6 x7 (wrap64 (x8 - 1)) (wrap64 (x9 + 1))) else (r2_Shortest.j2 k x0 x6 x7 x8))) else (r2_Shortest.j2 k x0 x6 x7 x8)
end
def r2_Shortest.f (k : Nat) (a0 : Int) : Option (Int × Int) := (r2_Parts.f a0).bind fun bt780 => ((r2_Of.f k bt780.1).bind fun t782 => ((r2_Of.f k 1).bind fun t785 => (if bt780.2 ≥ 0 then ((r2_Left.f k t782 bt780.2).bind fun t788 => (r2_Shortest.j0 k a0 t788 t785)) else ((r2_Left.f k t785 (wrap64 (-bt780.2))).bind fun t791 => (r2_Shortest.j0 k a0 t782 t791)))))
theorem r2_Shortest.mono_l : ∀ k, (∀ y0 y1 y2, LeO (r2_Shortest.j0 k y0 y1 y2) (r2_Shortest.j0 (k + 1) y0 y1 y2)) ∧ (∀ y0 y1 y2 y3, LeO (r2_Shortest.j2 k y0 y1 y2 y3) (r2_Shortest.j2 (k + 1) y0 y1 y2 y3)) ∧ (∀ y0 y1 y2 y3, LeO (r2_Shortest.j4 k y0 y1 y2 y3) (r2_Shortest.j4 (k + 1) y0 y1 y2 y3)) ∧ (∀ y0 y1 y2 y3 y4, LeO (r2_Shortest.l2 k y0 y1 y2 y3 y4) (r2_Shortest.l2 (k + 1) y0 y1 y2 y3 y4)) ∧ (∀ y0 y1 y2 y3 y4 y5 y6 y7, LeO (r2_Shortest.j6 k y0 y1 y2 y3 y4 y5 y6 y7) (r2_Shortest.j6 (k + 1) y0 y1 y2 y3 y4 y5 y6 y7)) ∧ (∀ y0 y1 y2 y3 y4 y5 y6 y7 y8 y9, LeO (r2_Shortest.j7 k y0 y1 y2 y3 y4 y5 y6 y7 y8 y9) (r2_Shortest.j7 (k + 1) y0 y1 y2 y3 y4 y5 y6 y7 y8 y9)) ∧ (∀ y0 y1 y2 y3 y4, LeO (r2_Shortest.l1 k y0 y1 y2 y3 y4) (r2_Shortest.l1 (k + 1) y0 y1 y2 y3 y4)) ∧ (∀ y0 y1 y2 y3 y4, LeO (r2_Shortest.l0 k y0 y1 y2 y3 y4) (r2_Shortest.l0 (k + 1) y0 y1 y2 y3 y4))
 | 0 => ⟨fun _ _ _ r h => by simp [r2_Shortest.j0] at h, fun _ _ _ _ r h => by simp [r2_Shortest.j2] at h, fun _ _ _ _ r h => by simp [r2_Shortest.j4] at h, fun _ _ _ _ _ r h => by simp [r2_Shortest.l2] at h, fun _ _ _ _ _ _ _ _ r h => by simp [r2_Shortest.j6] at h, fun _ _ _ _ _ _ _ _ _ _ r h => by simp [r2_Shortest.j7] at h, fun _ _ _ _ _ r h => by simp [r2_Shortest.l1] at h, fun _ _ _ _ _ r h => by simp [r2_Shortest.l0] at h⟩
 | k + 1 => by
  obtain ⟨ih0, ih1, ih2, ih3, ih4, ih5, ih6, ih7⟩ := r2_Shortest.mono_l k
  refine ⟨?_, ?_, ?_, ?_, ?_, ?_, ?_, ?_⟩
  ·intro y0 y1 y2
   unfold r2_Shortest.j0
   repeat' first | (with_reducible first | apply ih0 | apply ih1 | apply ih2 | apply ih3 | apply ih4 | apply ih5 | apply ih6 | apply ih7 | apply r2_Cmp.mono | apply r2_Left.mono | apply r2_Length.mono | apply r2_Of.mono | apply r2_Over.mono | apply r2_Product.mono | apply r2_Ten.mono | apply r2_Times.mono | apply r2_bare.mono | apply r2_reads.mono | apply r2_scaled.mono | apply r2_value.mono | apply LeO.refl | apply LeO.none | refine LeO.ite ?_ ?_ | refine LeO.bind ?_ (fun _ => ?_)) | apply LeO.none | refine LeO.ite ?_ ?_ | refine LeO.bind ?_ (fun _ => ?_)
  ·intro y0 y1 y2 y3
   unfold r2_Shortest.j2
   repeat' first | (with_reducible first | apply ih0 | apply ih1 | apply ih2 | apply ih3 | apply ih4 | apply ih5 | apply ih6 | apply ih7 | apply r2_Cmp.mono | apply r2_Left.mono | apply r2_Length.mono | apply r2_Of.mono | apply r2_Over.mono | apply r2_Product.mono | apply r2_Ten.mono | apply r2_Times.mono | apply r2_bare.mono | apply r2_reads.mono | apply r2_scaled.mono | apply r2_value.mono | apply LeO.refl | apply LeO.none | refine LeO.ite ?_ ?_ | refine LeO.bind ?_ (fun _ => ?_)) | apply LeO.none | refine LeO.ite ?_ ?_ | refine LeO.bind ?_ (fun _ => ?_)
  ·intro y0 y1 y2 y3
   unfold r2_Shortest.j4
   repeat' first | (with_reducible first | apply ih0 | apply ih1 | apply ih2 | apply ih3 | apply ih4 | apply ih5 | apply ih6 | apply ih7 | apply r2_Cmp.mono | apply r2_Left.mono | apply r2_Length.mono | apply r2_Of.mono | apply r2_Over.mono | apply r2_Product.mono | apply r2_Ten.mono | apply r2_Times.mono | apply r2_bare.mono | apply r2_reads.mono | apply r2_scaled.mono | apply r2_value.mono | apply LeO.refl | apply LeO.none | refine LeO.ite ?_ ?_ | refine LeO.bind ?_ (fun _ => ?_)) | apply LeO.none | refine LeO.ite ?_ ?_ | refine LeO.bind ?_ (fun _ => ?_)
  ·intro y0 y1 y2 y3 y4
   unfold r2_Shortest.l2
   repeat' first | (with_reducible first | apply ih0 | apply ih1 | apply ih2 | apply ih3 | apply ih4 | apply ih5 | apply ih6 | apply ih7 | apply r2_Cmp.mono | apply r2_Left.mono | apply r2_Length.mono | apply r2_Of.mono | apply r2_Over.mono | apply r2_Product.mono | apply r2_Ten.mono | apply r2_Times.mono | apply r2_bare.mono | apply r2_reads.mono | apply r2_scaled.mono | apply r2_value.mono | apply LeO.refl | apply LeO.none | refine LeO.ite ?_ ?_ | refine LeO.bind ?_ (fun _ => ?_)) | apply LeO.none | refine LeO.ite ?_ ?_ | refine LeO.bind ?_ (fun _ => ?_)
  ·intro y0 y1 y2 y3 y4 y5 y6 y7
   unfold r2_Shortest.j6
   repeat' first | (with_reducible first | apply ih0 | apply ih1 | apply ih2 | apply ih3 | apply ih4 | apply ih5 | apply ih6 | apply ih7 | apply r2_Cmp.mono | apply r2_Left.mono | apply r2_Length.mono | apply r2_Of.mono | apply r2_Over.mono | apply r2_Product.mono | apply r2_Ten.mono | apply r2_Times.mono | apply r2_bare.mono | apply r2_reads.mono | apply r2_scaled.mono | apply r2_value.mono | apply LeO.refl | apply LeO.none | refine LeO.ite ?_ ?_ | refine LeO.bind ?_ (fun _ => ?_)) | apply LeO.none | refine LeO.ite ?_ ?_ | refine LeO.bind ?_ (fun _ => ?_)
  ·intro y0 y1 y2 y3 y4 y5 y6 y7 y8 y9
   unfold r2_Shortest.j7
   repeat' first | (with_reducible first | apply ih0 | apply ih1 | apply ih2 | apply ih3 | apply ih4 | apply ih5 | apply ih6 | apply ih7 | apply r2_Cmp.mono | apply r2_Left.mono | apply r2_Length.mono | apply r2_Of.mono | apply r2_Over.mono | apply r2_Product.mono | apply r2_Ten.mono | apply r2_Times.mono | apply r2_bare.mono | apply r2_reads.mono | apply r2_scaled.mono | apply r2_value.mono | apply LeO.refl | apply LeO.none | refine LeO.ite ?_ ?_ | refine LeO.bind ?_ (fun _ => ?_)) | apply LeO.none | refine LeO.ite ?_ ?_ | refine LeO.bind ?_ (fun _ => ?_)
  ·intro y0 y1 y2 y3 y4
   unfold r2_Shortest.l1
   repeat' first | (with_reducible first | apply ih0 | apply ih1 | apply ih2 | apply ih3 | apply ih4 | apply ih5 | apply ih6 | apply ih7 | apply r2_Cmp.mono | apply r2_Left.mono | apply r2_Length.mono | apply r2_Of.mono | apply r2_Over.mono | apply r2_Product.mono | apply r2_Ten.mono | apply r2_Times.mono | apply r2_bare.mono | apply r2_reads.mono | apply r2_scaled.mono | apply r2_value.mono | apply LeO.refl | apply LeO.none | refine LeO.ite ?_ ?_ | refine LeO.bind ?_ (fun _ => ?_)) | apply LeO.none | refine LeO.ite ?_ ?_ | refine LeO.bind ?_ (fun _ => ?_)
  intro y0 y1 y2 y3 y4
  unfold r2_Shortest.l0
  repeat' first | (with_reducible first | apply ih0 | apply ih1 | apply ih2 | apply ih3 | apply ih4 | apply ih5 | apply ih6 | apply ih7 | apply r2_Cmp.mono | apply r2_Left.mono | apply r2_Length.mono | apply r2_Of.mono | apply r2_Over.mono | apply r2_Product.mono | apply r2_Ten.mono | apply r2_Times.mono | apply r2_bare.mono | apply r2_reads.mono | apply r2_scaled.mono | apply r2_value.mono | apply LeO.refl | apply LeO.none | refine LeO.ite ?_ ?_ | refine LeO.bind ?_ (fun _ => ?_)) | apply LeO.none | refine LeO.ite ?_ ?_ | refine LeO.bind ?_ (fun _ => ?_)
theorem r2_Shortest.mono : ∀ a0 k, LeO (r2_Shortest.f k a0) (r2_Shortest.f (k + 1) a0) := by
 intro a0 k
 obtain ⟨ih0, ih1, ih2, ih3, ih4, ih5, ih6, ih7⟩ := r2_Shortest.mono_l k
 unfold r2_Shortest.f
 repeat' first | (with_reducible first | apply ih0 | apply ih1 | apply ih2 | apply ih3 | apply ih4 | apply ih5 | apply ih6 | apply ih7 | apply r2_Cmp.mono | apply r2_Left.mono | apply r2_Length.mono | apply r2_Of.mono | apply r2_Over.mono | apply r2_Product.mono | apply r2_Ten.mono | apply r2_Times.mono | apply r2_bare.mono | apply r2_reads.mono | apply r2_scaled.mono | apply r2_value.mono | apply LeO.refl | apply LeO.none | refine LeO.ite ?_ ?_ | refine LeO.bind ?_ (fun _ => ?_)) | apply LeO.none | refine LeO.ite ?_ ?_ | refine LeO.bind ?_ (fun _ => ?_)
theorem r2_Shortest.calls (k : Nat) (a0 : Int) (r1 : Int) (r2 : Int) (w : World) (h : r2_Shortest.f k a0 = some (r1, r2)) :
  Calls Tryz.prog 43 #[.int .u64 a0] w fun e w' => e = .returned (.tuple #[.int .u64 r1, .int .i64 r2]) ∧ Below w.heap.size w w' := by
 have HB := Sd.mk (Below.refl w.heap.size w)
 have H : ((r2_Parts.f a0).bind fun bt780 => ((r2_Of.f k bt780.1).bind fun t782 => ((r2_Of.f k 1).bind fun t785 => (if bt780.2 ≥ 0 then ((r2_Left.f k t782 bt780.2).bind fun t788 => (r2_Shortest.j0 k a0 t788 t785)) else ((r2_Left.f k t785 (wrap64 (-bt780.2))).bind fun t791 => (r2_Shortest.j0 k a0 t782 t791)))))) = some (r1, r2) := h
 clear h
 obtain ⟨⟨t780, t781⟩, A2, H⟩ := sqO H
 try dsimp only at H
 obtain ⟨t782, A3, H⟩ := sqO H
 try dsimp only at H
 obtain ⟨t785, A4, H⟩ := sqO H
 try dsimp only at H
 have HC5 := Sd.mk H
 clear H
 go_enter Tryz.func43, Tryz.ntmps43
 go_upto_if 31 with (first | ((with_reducible refine gcl (f := 73) rfl ?_); refine gL (some 24) rfl rfl Tryz.func73 (by kernel_rfl) rfl #[.int .u64 a0] rfl sqA ?_; (with_reducible refine (r2_Parts.calls a0 t780 t781 _ A2.out).mono ?_); rintro e w' ⟨rfl, ⟨nd, rfl⟩⟩; refine ⟨_, rfl, ?_⟩) | ((with_reducible refine gcl (f := 65) rfl ?_); refine gL (some 28) rfl rfl Tryz.func65 (by kernel_rfl) rfl #[.int .u64 t780] rfl sqA ?_; (with_reducible refine (r2_Of.calls k t780 t782 _ A3.out).mono ?_); rintro e w6 ⟨v783, rfl, ho0, hb⟩; refine ⟨_, rfl, ?_⟩; have n0_ := Sd.mk (Kd.R_lower ho0 (bsz sqB)); have n1_ := Sd.mk (bst sqB hb); clear HB; have HO784 := n0_; have HB := n1_; clear n0_ n1_; (try clear hb); (try clear hb2); (try clear hk); (try clear hi); (try clear ho0)) | ((with_reducible refine gcl (f := 65) rfl ?_); refine gL (some 29) rfl rfl Tryz.func65 (by kernel_rfl) rfl #[.int .u64 1] rfl sqA ?_; (with_reducible refine (r2_Of.calls k 1 t785 _ A4.out).mono ?_); rintro e w7 ⟨v786, rfl, ho0, hb⟩; refine ⟨_, rfl, ?_⟩; have n0_ := Sd.mk (Kd.R_elder' (sqR HO784.out) (Kd.R_base ho0) hb); have n1_ := Sd.mk (Kd.R_lower (Kd.R_new' ho0 (Kd.R_lt (sqR HO784.out))) (bsz sqB)); have n2_ := Sd.mk (bst sqB hb); clear HO784; clear HB; have HO784 := n0_; have HO787 := n1_; have HB := n2_; clear n0_ n1_ n2_; (try clear hb); (try clear hb2); (try clear hk); (try clear hi); (try clear ho0)))
 (try simp only [Act.put, List.setIfInBounds_toArray, List.set_cons_zero, List.set_cons_succ])
 go_cut [6, 7] (fun v6 v7 wc => ∃ (kq : Nat) (x6_4 : List Int) (x7_4 : List Int), Sd (r2_Shortest.j0 kq a0 x6_4 x7_4 = some (r1, r2)) ∧ Sd (kq ≤ k) ∧ Sd (Kd.R (Kd.int .u32) 83 wc w.heap.size (fun k_ => some k_ ≠ (v7 : Value).ownBlock) v6 x6_4) ∧ Sd (Kd.R (Kd.int .u32) 83 wc w.heap.size (fun k_ => some k_ ≠ (v6 : Value).ownBlock) v7 x7_4) ∧ Sd (Below w.heap.size w wc))
 case first =>
  have H := HC5.out
  clear HC5
  by_cases c8 : t781 ≥ 0
  ·rw [if_pos c8] at H
   have c8b0 := decide_eq_true c8
   clear c8
   (first | rw [c8b0] | (simp only [i64_w, i32_w]; rw [c8b0]) | skip)
   obtain ⟨t788, A9, H⟩ := sqO H
   try dsimp only at H
   have H' := Sd.mk H
   clear H
   obtain ⟨Ao10, co10, eo10⟩ := Kd.R_slice HO784.out
   subst eo10
   go_wp2_with (first | ((with_reducible refine gcl (f := 74) rfl ?_); refine gL (some 34) rfl rfl Tryz.func74 (by kernel_rfl) rfl #[.slice Ao10 t782.length co10, .int .i64 t781] rfl sqA ?_; (with_reducible refine (r2_Left.calls k _ _ t782 t781 t788 _ ?side1 ?side2 A9.out).mono ?_); (case side1 => repeat (first | exact (Kd.R_reads' HO784.out).2.2 | (with_reducible refine Kd.C_alloc ?_ _) | (with_reducible refine Kd.C_drewN ?_ _) | (with_reducible refine Kd.C_drew ?_))); (case side2 => exact (Kd.R_reads' HO784.out).2.1); rintro e w11 ⟨v789, rfl, ho0, hb⟩; refine ⟨_, rfl, ?_⟩; have n0_ := Sd.mk (Kd.R_elder' (sqR HO784.out) (Kd.R_base ho0) hb); have n1_ := Sd.mk (Kd.R_elder' (sqR HO787.out) (Kd.R_base ho0) hb); have n2_ := Sd.mk (Kd.R_lower (Kd.R_new' (Kd.R_new' ho0 (Kd.R_lt (sqR HO784.out))) (Kd.R_lt (sqR HO787.out))) (bsz sqB)); have n3_ := Sd.mk (bst sqB hb); clear HO784; clear HO787; clear HB; have HO784 := n0_; have HO787 := n1_; have HO790 := n2_; have HB := n3_; clear n0_ n1_ n2_ n3_; (try clear hb); (try clear hb2); (try clear hk); (try clear hi); (try clear ho0)))
   go_meet
   case rel => exact ⟨_, (t788), (t785), H', ⟨by first | omega | exact Nat.le_refl _⟩, ⟨by (with_reducible repeat (first | apply Kd.R_alloc | apply Kd.R_drewN | apply Kd.R_drew)); exact Kd.R_mono HO790.out (fun _ hk => hk.2)⟩, ⟨by (with_reducible repeat (first | apply Kd.R_alloc | apply Kd.R_drewN | apply Kd.R_drew)); exact Kd.R_mono HO787.out (fun _ hk => hk.2)⟩, ⟨sqB⟩⟩
  rw [if_neg c8] at H
  have c8b0 := decide_eq_false c8
  clear c8
  (first | rw [c8b0] | (simp only [i64_w, i32_w]; rw [c8b0]) | skip)
  obtain ⟨t791, A12, H⟩ := sqO H
  try dsimp only at H
  have H' := Sd.mk H
  clear H
  obtain ⟨Ao13, co13, eo13⟩ := Kd.R_slice HO787.out
  subst eo13
  go_wp2_with (first | ((with_reducible refine gcl (f := 74) rfl ?_); refine gL (some 38) rfl rfl Tryz.func74 (by kernel_rfl) rfl #[.slice Ao13 t785.length co13, .int .i64 (wrap64 (-t781))] rfl sqA ?_; (with_reducible refine (r2_Left.calls k _ _ t785 (wrap64 (-t781)) t791 _ ?side1 ?side2 A12.out).mono ?_); (case side1 => repeat (first | exact (Kd.R_reads' HO787.out).2.2 | (with_reducible refine Kd.C_alloc ?_ _) | (with_reducible refine Kd.C_drewN ?_ _) | (with_reducible refine Kd.C_drew ?_))); (case side2 => exact (Kd.R_reads' HO787.out).2.1); rintro e w14 ⟨v792, rfl, ho0, hb⟩; refine ⟨_, rfl, ?_⟩; have n0_ := Sd.mk (Kd.R_elder' (sqR HO784.out) (Kd.R_base ho0) hb); have n1_ := Sd.mk (Kd.R_elder' (sqR HO787.out) (Kd.R_base ho0) hb); have n2_ := Sd.mk (Kd.R_lower (Kd.R_new' (Kd.R_new' ho0 (Kd.R_lt (sqR HO784.out))) (Kd.R_lt (sqR HO787.out))) (bsz sqB)); have n3_ := Sd.mk (bst sqB hb); clear HO784; clear HO787; clear HB; have HO784 := n0_; have HO787 := n1_; have HO793 := n2_; have HB := n3_; clear n0_ n1_ n2_ n3_; (try clear hb); (try clear hb2); (try clear hk); (try clear hi); (try clear ho0)))
  go_meet
  case rel => exact ⟨_, (t782), (t791), H', ⟨by first | omega | exact Nat.le_refl _⟩, ⟨by (with_reducible repeat (first | apply Kd.R_alloc | apply Kd.R_drewN | apply Kd.R_drew)); exact Kd.R_mono HO784.out (fun _ hk => hk.2)⟩, ⟨by (with_reducible repeat (first | apply Kd.R_alloc | apply Kd.R_drewN | apply Kd.R_drew)); exact Kd.R_mono HO793.out (fun _ hk => hk.1.2)⟩, ⟨sqB⟩⟩
 case rest =>
  clear HC5
  try clear p2
  try clear c4
  try clear c6
  try clear p6
  try clear c7
  try clear c8
  try clear c8b0
  obtain ⟨kq, x6_4, x7_4, HA, HJ4, HO_6, HO_7, HB⟩ := hcut
  cases kq with
  | zero => exact absurd HA.out (by simp [r2_Shortest.j0])
  | succ kj4 =>
   have H := HA.out
   clear HA
   simp only [r2_Shortest.j0] at H
   obtain ⟨t794, A15, H⟩ := sqO H
   try dsimp only at H
   obtain ⟨t795, A16, H⟩ := sqO H
   try dsimp only at H
   have HC17 := Sd.mk H
   clear H
   obtain ⟨Ao18, co18, eo18⟩ := Kd.R_slice HO_6.out
   subst eo18
   go_upto_block 0 with (first | ((with_reducible refine gcl (f := 75) rfl ?_); refine gL (some 40) rfl rfl Tryz.func75 (by kernel_rfl) rfl #[.slice Ao18 x6_4.length co18] rfl sqA ?_; (with_reducible refine (r2_Length.calls kj4 _ _ x6_4 t794 _ ?side1 ?side2 A15.out).mono ?_); (case side1 => repeat (first | exact (Kd.R_reads' HO_6.out).2.2 | (with_reducible refine Kd.C_alloc ?_ _) | (with_reducible refine Kd.C_drewN ?_ _) | (with_reducible refine Kd.C_drew ?_))); (case side2 => exact (Kd.R_reads' HO_6.out).2.1); rintro e w' ⟨rfl, ⟨nd, rfl⟩⟩; refine ⟨_, rfl, ?_⟩; obtain ⟨Ao19, co19, eo19⟩ := Kd.R_slice HO_7.out; subst eo19) | ((with_reducible refine gcl (f := 75) rfl ?_); refine gL (some 42) rfl rfl Tryz.func75 (by kernel_rfl) rfl #[.slice Ao19 x7_4.length co19] rfl sqA ?_; (with_reducible refine (r2_Length.calls kj4 _ _ x7_4 t795 _ ?side1 ?side2 A16.out).mono ?_); (case side1 => repeat (first | exact (Kd.R_reads' HO_7.out).2.2 | (with_reducible refine Kd.C_alloc ?_ _) | (with_reducible refine Kd.C_drewN ?_ _) | (with_reducible refine Kd.C_drew ?_))); (case side2 => exact (Kd.R_reads' HO_7.out).2.1); rintro e w' ⟨rfl, ⟨nd, rfl⟩⟩; refine ⟨_, rfl, ?_⟩))
   (try simp only [Act.put, List.setIfInBounds_toArray, List.set_cons_zero, List.set_cons_succ])
   go_cut [8] (fun v8 wc => ∃ (kq : Nat) (x8_16 : Int), v8 = .int .i64 x8_16 ∧ Sd (r2_Shortest.j2 kq a0 x6_4 x7_4 x8_16 = some (r1, r2)) ∧ Sd (kq ≤ kj4) ∧ Sd (Kd.R (Kd.int .u32) 83 wc w.heap.size (fun k_ => some k_ ≠ ((.slice Ao19 x7_4.length co19) : Value).ownBlock) (.slice Ao18 x6_4.length co18) x6_4) ∧ Sd (Kd.R (Kd.int .u32) 83 wc w.heap.size (fun k_ => some k_ ≠ ((.slice Ao18 x6_4.length co18) : Value).ownBlock) (.slice Ao19 x7_4.length co19) x7_4) ∧ Sd (Below w.heap.size w wc))
   case first =>
    have H := HC17.out
    clear HC17
    have H' := Sd.mk H
    clear H
    go_wp2
    go_loopg [8, 9] kj4 (fun kq v8 v9 w' => ∃ (x8_2 : Int) (x9_2 : Int), v8 = .int .i64 x8_2 ∧ v9 = .int .i64 x9_2 ∧ Sd (r2_Shortest.l0 kq a0 x6_4 x7_4 x8_2 x9_2 = some (r1, r2)) ∧ Sd (kq ≤ kj4) ∧ Sd (Kd.R (Kd.int .u32) 83 w' w.heap.size (fun k_ => some k_ ≠ ((.slice Ao19 x7_4.length co19) : Value).ownBlock) (.slice Ao18 x6_4.length co18) x6_4) ∧ Sd (Kd.R (Kd.int .u32) 83 w' w.heap.size (fun k_ => some k_ ≠ ((.slice Ao18 x6_4.length co18) : Value).ownBlock) (.slice Ao19 x7_4.length co19) x7_4) ∧ Sd (Below w.heap.size w w'))
    case atStart => exact ⟨(wrap64 (Int.tdiv (wrap64 ((wrap64 (t794 - t795)) * 30103)) 100000)), (0), sqE, sqE, H', ⟨Nat.le_refl _⟩, ⟨sqR HO_6.out⟩, ⟨sqR HO_7.out⟩, ⟨sqB⟩⟩
    case round =>
     clear H'
     try clear p2
     try clear c4
     try clear c6
     try clear p6
     try clear c7
     try clear c8
     try clear c8b0
     try clear p2
     try clear p6
     obtain ⟨x8_2, x9_2, rfl, rfl, HA, HK2, HO_6, HO_7, HB⟩ := hrel
     cases gk with
     | zero => exact absurd HA.out (by simp [r2_Shortest.l0])
     | succ k2 =>
      have H := HA.out
      clear HA
      simp only [r2_Shortest.l0] at H
      by_cases c20 : x9_2 < 4
      case neg =>
       rw [if_neg c20] at H
       have c20b0 := decide_eq_false c20
       clear c20
       (first | rw [c20b0] | (simp only [i64_w, i32_w]; rw [c20b0]) | skip)
       have H' := Sd.mk H
       clear H
       go_wp2
       go_meet
       case rel => exact ⟨_, (x8_2), sqE, H', ⟨by have := HJ4.out; have := HK2.out; first | omega | exact Nat.le_refl _⟩, ⟨sqR HO_6.out⟩, ⟨sqR HO_7.out⟩, ⟨sqB⟩⟩
      rw [if_pos c20] at H
      have c20b0 := decide_eq_true c20
      clear c20
      (first | rw [c20b0] | (simp only [i64_w, i32_w]; rw [c20b0]) | skip)
      obtain ⟨t796, A21, H⟩ := sqO H
      try dsimp only at H
      by_cases c22 : t796 < 0
      ·rw [if_pos c22] at H
       have c22b0 := decide_eq_true c22
       clear c22
       have H' := Sd.mk H
       clear H
       go_wp2_with (first | (go_at_call 76; (with_reducible refine (r2_scaled.calls k2 _ _ x6_4 _ _ x7_4 x8_2 t796 _ ?side1 ?side2 ?side3 ?side4 A21.out).mono ?_); (case side1 => repeat (first | exact (Kd.R_reads' HO_6.out).2.2 | (with_reducible refine Kd.C_alloc ?_ _) | (with_reducible refine Kd.C_drewN ?_ _) | (with_reducible refine Kd.C_drew ?_))); (case side2 => exact (Kd.R_reads' HO_6.out).2.1); (case side3 => repeat (first | exact (Kd.R_reads' HO_7.out).2.2 | (with_reducible refine Kd.C_alloc ?_ _) | (with_reducible refine Kd.C_drewN ?_ _) | (with_reducible refine Kd.C_drew ?_))); (case side4 => exact (Kd.R_reads' HO_7.out).2.1); rintro e w23 ⟨rfl, hb⟩; have n0_ := Sd.mk (Kd.R_below (sqR HO_6.out) hb); have n1_ := Sd.mk (Kd.R_below (sqR HO_7.out) hb); have n2_ := Sd.mk (bst sqB hb); clear HO_6; clear HO_7; clear HB; have HO_6 := n0_; have HO_7 := n1_; have HB := n2_; clear n0_ n1_ n2_; (try clear hb); (try clear hb2); (try clear hk); (try clear hi)))
       go_roundg k2
       case measure => have := HJ4.out; have := HK2.out; omega
       case rel => exact ⟨(wrap64 (x8_2 - 1)), (wrap64 (x9_2 + 1)), sqE, sqE, H', ⟨by have := HJ4.out; have := HK2.out; omega⟩, ⟨sqR HO_6.out⟩, ⟨sqR HO_7.out⟩, ⟨sqB⟩⟩
      rw [if_neg c22] at H
      have c22b0 := decide_eq_false c22
      clear c22
      have H' := Sd.mk H
      clear H
      go_wp2_with (first | (go_at_call 76; (with_reducible refine (r2_scaled.calls k2 _ _ x6_4 _ _ x7_4 x8_2 t796 _ ?side1 ?side2 ?side3 ?side4 A21.out).mono ?_); (case side1 => repeat (first | exact (Kd.R_reads' HO_6.out).2.2 | (with_reducible refine Kd.C_alloc ?_ _) | (with_reducible refine Kd.C_drewN ?_ _) | (with_reducible refine Kd.C_drew ?_))); (case side2 => exact (Kd.R_reads' HO_6.out).2.1); (case side3 => repeat (first | exact (Kd.R_reads' HO_7.out).2.2 | (with_reducible refine Kd.C_alloc ?_ _) | (with_reducible refine Kd.C_drewN ?_ _) | (with_reducible refine Kd.C_drew ?_))); (case side4 => exact (Kd.R_reads' HO_7.out).2.1); rintro e w24 ⟨rfl, hb⟩; have n0_ := Sd.mk (Kd.R_below (sqR HO_6.out) hb); have n1_ := Sd.mk (Kd.R_below (sqR HO_7.out) hb); have n2_ := Sd.mk (bst sqB hb); clear HO_6; clear HO_7; clear HB; have HO_6 := n0_; have HO_7 := n1_; have HB := n2_; clear n0_ n1_ n2_; (try clear hb); (try clear hb2); (try clear hk); (try clear hi)))
      go_meet
      case rel => exact ⟨_, (x8_2), sqE, H', ⟨by have := HJ4.out; have := HK2.out; first | omega | exact Nat.le_refl _⟩, ⟨sqR HO_6.out⟩, ⟨sqR HO_7.out⟩, ⟨sqB⟩⟩
   case rest =>
    clear HC17
    try clear c2
    try clear p2
    try clear c4
    try clear c6
    try clear p6
    try clear c7
    try clear c8
    try clear c8b0
    try clear c20
    try clear c20b0
    try clear c22
    try clear c22b0
    try clear p2
    try clear p6
    obtain ⟨kq, x8_16, rfl, HA, HJ16, HO_6, HO_7, HB⟩ := hcut
    cases kq with
    | zero => exact absurd HA.out (by simp [r2_Shortest.j2])
    | succ kj16 =>
     have H := HA.out
     clear HA
     simp only [r2_Shortest.j2] at H
     have HC25 := Sd.mk H
     clear H
     go_upto_block 2 with (fail)
     go_cut [8] (fun v8 wc => ∃ (kq : Nat) (x8_24 : Int), v8 = .int .i64 x8_24 ∧ Sd (r2_Shortest.j4 kq a0 x6_4 x7_4 x8_24 = some (r1, r2)) ∧ Sd (kq ≤ kj16) ∧ Sd (Kd.R (Kd.int .u32) 83 wc w.heap.size (fun k_ => some k_ ≠ ((.slice Ao19 x7_4.length co19) : Value).ownBlock) (.slice Ao18 x6_4.length co18) x6_4) ∧ Sd (Kd.R (Kd.int .u32) 83 wc w.heap.size (fun k_ => some k_ ≠ ((.slice Ao18 x6_4.length co18) : Value).ownBlock) (.slice Ao19 x7_4.length co19) x7_4) ∧ Sd (Below w.heap.size w wc))
     case first =>
      have H := HC25.out
      clear HC25
      have H' := Sd.mk H
      clear H
      go_wp2
      go_loopg [8, 10] kj16 (fun kq v8 v10 w' => ∃ (x8_3 : Int) (x10_3 : Int), v8 = .int .i64 x8_3 ∧ v10 = .int .i64 x10_3 ∧ Sd (r2_Shortest.l1 kq a0 x6_4 x7_4 x8_3 x10_3 = some (r1, r2)) ∧ Sd (kq ≤ kj16) ∧ Sd (Kd.R (Kd.int .u32) 83 w' w.heap.size (fun k_ => some k_ ≠ ((.slice Ao19 x7_4.length co19) : Value).ownBlock) (.slice Ao18 x6_4.length co18) x6_4) ∧ Sd (Kd.R (Kd.int .u32) 83 w' w.heap.size (fun k_ => some k_ ≠ ((.slice Ao18 x6_4.length co18) : Value).ownBlock) (.slice Ao19 x7_4.length co19) x7_4) ∧ Sd (Below w.heap.size w w'))
      case atStart => exact ⟨(x8_16), (0), sqE, sqE, H', ⟨Nat.le_refl _⟩, ⟨sqR HO_6.out⟩, ⟨sqR HO_7.out⟩, ⟨sqB⟩⟩
      case round =>
       clear H'
       try clear c2
       try clear p2
       try clear c4
       try clear c6
       try clear p6
       try clear c7
       try clear c8
       try clear c8b0
       try clear c20
       try clear c20b0
       try clear c22
       try clear c22b0
       try clear p2
       try clear p6
       obtain ⟨x8_3, x10_3, rfl, rfl, HA, HK3, HO_6, HO_7, HB⟩ := hrel
       cases gk with
       | zero => exact absurd HA.out (by simp [r2_Shortest.l1])
       | succ k3 =>
        have H := HA.out
        clear HA
        simp only [r2_Shortest.l1] at H
        by_cases c26 : x10_3 < 4
        case neg =>
         rw [if_neg c26] at H
         have c26b0 := decide_eq_false c26
         clear c26
         (first | rw [c26b0] | (simp only [i64_w, i32_w]; rw [c26b0]) | skip)
         have H' := Sd.mk H
         clear H
         go_wp2
         go_meet
         case rel => exact ⟨_, (x8_3), sqE, H', ⟨by have := HJ4.out; have := HJ16.out; have := HK3.out; first | omega | exact Nat.le_refl _⟩, ⟨sqR HO_6.out⟩, ⟨sqR HO_7.out⟩, ⟨sqB⟩⟩
        rw [if_pos c26] at H
        have c26b0 := decide_eq_true c26
        clear c26
        (first | rw [c26b0] | (simp only [i64_w, i32_w]; rw [c26b0]) | skip)
        obtain ⟨t797, A27, H⟩ := sqO H
        try dsimp only at H
        by_cases c28 : t797 ≥ 0
        ·rw [if_pos c28] at H
         have c28b0 := decide_eq_true c28
         clear c28
         have H' := Sd.mk H
         clear H
         go_wp2_with (first | (go_at_call 76; (with_reducible refine (r2_scaled.calls k3 _ _ x6_4 _ _ x7_4 (wrap64 (x8_3 + 1)) t797 _ ?side1 ?side2 ?side3 ?side4 A27.out).mono ?_); (case side1 => repeat (first | exact (Kd.R_reads' HO_6.out).2.2 | (with_reducible refine Kd.C_alloc ?_ _) | (with_reducible refine Kd.C_drewN ?_ _) | (with_reducible refine Kd.C_drew ?_))); (case side2 => exact (Kd.R_reads' HO_6.out).2.1); (case side3 => repeat (first | exact (Kd.R_reads' HO_7.out).2.2 | (with_reducible refine Kd.C_alloc ?_ _) | (with_reducible refine Kd.C_drewN ?_ _) | (with_reducible refine Kd.C_drew ?_))); (case side4 => exact (Kd.R_reads' HO_7.out).2.1); rintro e w29 ⟨rfl, hb⟩; have n0_ := Sd.mk (Kd.R_below (sqR HO_6.out) hb); have n1_ := Sd.mk (Kd.R_below (sqR HO_7.out) hb); have n2_ := Sd.mk (bst sqB hb); clear HO_6; clear HO_7; clear HB; have HO_6 := n0_; have HO_7 := n1_; have HB := n2_; clear n0_ n1_ n2_; (try clear hb); (try clear hb2); (try clear hk); (try clear hi)))
         go_roundg k3
         case measure => have := HJ4.out; have := HJ16.out; have := HK3.out; omega
         case rel => exact ⟨(wrap64 (x8_3 + 1)), (wrap64 (x10_3 + 1)), sqE, sqE, H', ⟨by have := HJ4.out; have := HJ16.out; have := HK3.out; omega⟩, ⟨sqR HO_6.out⟩, ⟨sqR HO_7.out⟩, ⟨sqB⟩⟩
        rw [if_neg c28] at H
        have c28b0 := decide_eq_false c28
        clear c28
        have H' := Sd.mk H
        clear H
        go_wp2_with (first | (go_at_call 76; (with_reducible refine (r2_scaled.calls k3 _ _ x6_4 _ _ x7_4 (wrap64 (x8_3 + 1)) t797 _ ?side1 ?side2 ?side3 ?side4 A27.out).mono ?_); (case side1 => repeat (first | exact (Kd.R_reads' HO_6.out).2.2 | (with_reducible refine Kd.C_alloc ?_ _) | (with_reducible refine Kd.C_drewN ?_ _) | (with_reducible refine Kd.C_drew ?_))); (case side2 => exact (Kd.R_reads' HO_6.out).2.1); (case side3 => repeat (first | exact (Kd.R_reads' HO_7.out).2.2 | (with_reducible refine Kd.C_alloc ?_ _) | (with_reducible refine Kd.C_drewN ?_ _) | (with_reducible refine Kd.C_drew ?_))); (case side4 => exact (Kd.R_reads' HO_7.out).2.1); rintro e w30 ⟨rfl, hb⟩; have n0_ := Sd.mk (Kd.R_below (sqR HO_6.out) hb); have n1_ := Sd.mk (Kd.R_below (sqR HO_7.out) hb); have n2_ := Sd.mk (bst sqB hb); clear HO_6; clear HO_7; clear HB; have HO_6 := n0_; have HO_7 := n1_; have HB := n2_; clear n0_ n1_ n2_; (try clear hb); (try clear hb2); (try clear hk); (try clear hi)))
        go_meet
        case rel => exact ⟨_, (x8_3), sqE, H', ⟨by have := HJ4.out; have := HJ16.out; have := HK3.out; first | omega | exact Nat.le_refl _⟩, ⟨sqR HO_6.out⟩, ⟨sqR HO_7.out⟩, ⟨sqB⟩⟩
     case rest =>
      clear HC25
      try clear c2
      try clear p2
      try clear c4
      try clear c6
      try clear p6
      try clear c7
      try clear c8
      try clear c8b0
      try clear c20
      try clear c20b0
      try clear c22
      try clear c22b0
      try clear c26
      try clear c26b0
      try clear c28
      try clear c28b0
      try clear p2
      try clear p6
      obtain ⟨kq, x8_24, rfl, HA, HJ24, HO_6, HO_7, HB⟩ := hcut
      cases kq with
      | zero => exact absurd HA.out (by simp [r2_Shortest.j4])
      | succ kj24 =>
       have H := HA.out
       clear HA
       simp only [r2_Shortest.j4] at H
       have H' := Sd.mk H
       clear H
       go_wp2
       go_loopg [11] kj24 (fun kq v11 w' => ∃ (x11_4 : Int), v11 = .int .i64 x11_4 ∧ Sd (r2_Shortest.l2 kq a0 x6_4 x7_4 x8_24 x11_4 = some (r1, r2)) ∧ Sd (kq ≤ kj24) ∧ Sd (Kd.R (Kd.int .u32) 83 w' w.heap.size (fun k_ => some k_ ≠ ((.slice Ao19 x7_4.length co19) : Value).ownBlock) (.slice Ao18 x6_4.length co18) x6_4) ∧ Sd (Kd.R (Kd.int .u32) 83 w' w.heap.size (fun k_ => some k_ ≠ ((.slice Ao18 x6_4.length co18) : Value).ownBlock) (.slice Ao19 x7_4.length co19) x7_4) ∧ Sd (Below w.heap.size w w'))
       case atStart => exact ⟨(1), sqE, H', ⟨Nat.le_refl _⟩, ⟨sqR HO_6.out⟩, ⟨sqR HO_7.out⟩, ⟨sqB⟩⟩
       case round =>
        clear H'
        try clear c2
        try clear p2
        try clear c4
        try clear c6
        try clear p6
        try clear c7
        try clear c8
        try clear c8b0
        try clear c20
        try clear c20b0
        try clear c22
        try clear c22b0
        try clear c26
        try clear c26b0
        try clear c28
        try clear c28b0
        try clear p2
        try clear p6
        obtain ⟨x11_4, rfl, HA, HK4, HO_6, HO_7, HB⟩ := hrel
        cases gk with
        | zero => exact absurd HA.out (by simp [r2_Shortest.l2])
        | succ k4 =>
         have H := HA.out
         clear HA
         simp only [r2_Shortest.l2] at H
         by_cases c31 : x11_4 ≤ 17
         case neg =>
          rw [if_neg c31] at H
          have c31b0 := decide_eq_false c31
          clear c31
          simp only [Option.some.injEq, Prod.mk.injEq] at H
          obtain ⟨rfl, rfl⟩ := H
          go_wp2
          go_ret2
          exact ⟨sqE', sqB⟩
         rw [if_pos c31] at H
         have c31b0 := decide_eq_true c31
         clear c31
         have HC32 := Sd.mk H
         clear H
         go_upto_if 84 with (fail)
         go_cut [13, 14] (fun v13 v14 wc => ∃ (kq : Nat) (x13_31 : List Int) (x14_31 : List Int), Sd (r2_Shortest.j6 kq a0 x6_4 x7_4 x8_24 x11_4 (wrap64 ((wrap64 (x8_24 - x11_4)) + 1)) x13_31 x14_31 = some (r1, r2)) ∧ Sd (kq ≤ k4) ∧ Sd (Kd.R (Kd.int .u32) 83 wc w.heap.size (fun k_ => some k_ ≠ ((.slice Ao19 x7_4.length co19) : Value).ownBlock ∧ some k_ ≠ (v14 : Value).ownBlock) (.slice Ao18 x6_4.length co18) x6_4) ∧ Sd (Kd.R (Kd.int .u32) 83 wc w.heap.size (fun k_ => some k_ ≠ ((.slice Ao18 x6_4.length co18) : Value).ownBlock ∧ some k_ ≠ (v13 : Value).ownBlock) (.slice Ao19 x7_4.length co19) x7_4) ∧ Sd (Kd.R (Kd.int .u32) 83 wc w.heap.size (fun k_ => some k_ ≠ ((.slice Ao19 x7_4.length co19) : Value).ownBlock ∧ some k_ ≠ (v14 : Value).ownBlock) v13 x13_31) ∧ Sd (Kd.R (Kd.int .u32) 83 wc w.heap.size (fun k_ => some k_ ≠ ((.slice Ao18 x6_4.length co18) : Value).ownBlock ∧ some k_ ≠ (v13 : Value).ownBlock) v14 x14_31) ∧ Sd (Below w.heap.size w wc))
         case first =>
          have H := HC32.out
          clear HC32
          by_cases c33 : (wrap64 ((wrap64 (x8_24 - x11_4)) + 1)) ≥ 0
          ·rw [if_pos c33] at H
           have c33b0 := decide_eq_true c33
           clear c33
           (first | rw [c33b0] | (simp only [i64_w, i32_w]; rw [c33b0]) | skip)
           obtain ⟨t798, A34, H⟩ := sqO H
           try dsimp only at H
           obtain ⟨t801, A35, H⟩ := sqO H
           try dsimp only at H
           have H' := Sd.mk H
           clear H
           go_wp2_with (first | ((with_reducible refine gcl (f := 64) rfl ?_); refine gL (some 87) rfl rfl Tryz.func64 (by kernel_rfl) rfl #[.int .i64 (wrap64 ((wrap64 (x8_24 - x11_4)) + 1))] rfl sqA ?_; (with_reducible refine (r2_Ten.calls k4 (wrap64 ((wrap64 (x8_24 - x11_4)) + 1)) t798 _ A34.out).mono ?_); rintro e w36 ⟨v799, rfl, ho0, hb⟩; refine ⟨_, rfl, ?_⟩; have n0_ := Sd.mk (Kd.R_elder' (sqR HO_6.out) (Kd.R_base ho0) hb); have n1_ := Sd.mk (Kd.R_elder' (sqR HO_7.out) (Kd.R_base ho0) hb); have n2_ := Sd.mk (Kd.R_lower (Kd.R_new' (Kd.R_new' ho0 (Kd.R_lt (sqR HO_6.out))) (Kd.R_lt (sqR HO_7.out))) (bsz sqB)); have n3_ := Sd.mk (bst sqB hb); clear HO_6; clear HO_7; clear HB; have HO_6 := n0_; have HO_7 := n1_; have HO800 := n2_; have HB := n3_; clear n0_ n1_ n2_ n3_; (try clear hb); (try clear hb2); (try clear hk); (try clear hi); (try clear ho0); obtain ⟨Ao37, co37, eo37⟩ := Kd.R_slice HO800.out; subst eo37) | ((with_reducible refine gcl (f := 63) rfl ?_); refine gL (some 88) rfl rfl Tryz.func63 (by kernel_rfl) rfl #[.slice Ao19 x7_4.length co19, .slice Ao37 t798.length co37] rfl sqA ?_; (with_reducible refine (r2_Product.calls k4 _ _ x7_4 _ _ t798 t801 _ ?side1 ?side2 ?side3 ?side4 A35.out).mono ?_); (case side1 => repeat (first | exact (Kd.R_reads' HO_7.out).2.2 | (with_reducible refine Kd.C_alloc ?_ _) | (with_reducible refine Kd.C_drewN ?_ _) | (with_reducible refine Kd.C_drew ?_))); (case side2 => exact (Kd.R_reads' HO_7.out).2.1); (case side3 => repeat (first | exact (Kd.R_reads' HO800.out).2.2 | (with_reducible refine Kd.C_alloc ?_ _) | (with_reducible refine Kd.C_drewN ?_ _) | (with_reducible refine Kd.C_drew ?_))); (case side4 => exact (Kd.R_reads' HO800.out).2.1); rintro e w38 ⟨v802, rfl, ho0, hb⟩; refine ⟨_, rfl, ?_⟩; have n0_ := Sd.mk (Kd.R_elder' (sqR HO_6.out) (Kd.R_base ho0) hb); have n1_ := Sd.mk (Kd.R_elder' (sqR HO_7.out) (Kd.R_base ho0) hb); have n2_ := Sd.mk (Kd.R_elder' (sqR HO800.out) (Kd.R_base ho0) hb); have n3_ := Sd.mk (Kd.R_lower (Kd.R_new' (Kd.R_new' (Kd.R_new' ho0 (Kd.R_lt (sqR HO_6.out))) (Kd.R_lt (sqR HO_7.out))) (Kd.R_lt (sqR HO800.out))) (bsz sqB)); have n4_ := Sd.mk (bst sqB hb); clear HO_6; clear HO_7; clear HO800; clear HB; have HO_6 := n0_; have HO_7 := n1_; have HO800 := n2_; have HO803 := n3_; have HB := n4_; clear n0_ n1_ n2_ n3_ n4_; (try clear hb); (try clear hb2); (try clear hk); (try clear hi); (try clear ho0)))
           go_meet
           case rel => exact ⟨_, (x6_4), (t801), H', ⟨by have := HJ4.out; have := HJ16.out; have := HJ24.out; have := HK4.out; first | omega | exact Nat.le_refl _⟩, ⟨by (with_reducible repeat (first | apply Kd.R_alloc | apply Kd.R_drewN | apply Kd.R_drew)); exact Kd.R_mono HO_6.out (fun _ hk => ⟨hk.1.1, hk.2⟩)⟩, ⟨by (with_reducible repeat (first | apply Kd.R_alloc | apply Kd.R_drewN | apply Kd.R_drew)); exact Kd.R_mono HO_7.out (fun _ hk => ⟨hk.1.1, hk.1.1⟩)⟩, ⟨by (with_reducible repeat (first | apply Kd.R_alloc | apply Kd.R_drewN | apply Kd.R_drew)); exact Kd.R_mono HO_6.out (fun _ hk => ⟨hk.1.1, hk.2⟩)⟩, ⟨by (with_reducible repeat (first | apply Kd.R_alloc | apply Kd.R_drewN | apply Kd.R_drew)); exact Kd.R_mono HO803.out (fun _ hk => ⟨hk.1.1.2, hk.1.1.2⟩)⟩, ⟨sqB⟩⟩
          rw [if_neg c33] at H
          have c33b0 := decide_eq_false c33
          clear c33
          (first | rw [c33b0] | (simp only [i64_w, i32_w]; rw [c33b0]) | skip)
          obtain ⟨t804, A39, H⟩ := sqO H
          try dsimp only at H
          obtain ⟨t807, A40, H⟩ := sqO H
          try dsimp only at H
          have H' := Sd.mk H
          clear H
          go_wp2_with (first | ((with_reducible refine gcl (f := 64) rfl ?_); refine gL (some 92) rfl rfl Tryz.func64 (by kernel_rfl) rfl #[.int .i64 (wrap64 (-(wrap64 ((wrap64 (x8_24 - x11_4)) + 1))))] rfl sqA ?_; (with_reducible refine (r2_Ten.calls k4 (wrap64 (-(wrap64 ((wrap64 (x8_24 - x11_4)) + 1)))) t804 _ A39.out).mono ?_); rintro e w41 ⟨v805, rfl, ho0, hb⟩; refine ⟨_, rfl, ?_⟩; have n0_ := Sd.mk (Kd.R_elder' (sqR HO_6.out) (Kd.R_base ho0) hb); have n1_ := Sd.mk (Kd.R_elder' (sqR HO_7.out) (Kd.R_base ho0) hb); have n2_ := Sd.mk (Kd.R_lower (Kd.R_new' (Kd.R_new' ho0 (Kd.R_lt (sqR HO_6.out))) (Kd.R_lt (sqR HO_7.out))) (bsz sqB)); have n3_ := Sd.mk (bst sqB hb); clear HO_6; clear HO_7; clear HB; have HO_6 := n0_; have HO_7 := n1_; have HO806 := n2_; have HB := n3_; clear n0_ n1_ n2_ n3_; (try clear hb); (try clear hb2); (try clear hk); (try clear hi); (try clear ho0); obtain ⟨Ao42, co42, eo42⟩ := Kd.R_slice HO806.out; subst eo42) | ((with_reducible refine gcl (f := 63) rfl ?_); refine gL (some 93) rfl rfl Tryz.func63 (by kernel_rfl) rfl #[.slice Ao18 x6_4.length co18, .slice Ao42 t804.length co42] rfl sqA ?_; (with_reducible refine (r2_Product.calls k4 _ _ x6_4 _ _ t804 t807 _ ?side1 ?side2 ?side3 ?side4 A40.out).mono ?_); (case side1 => repeat (first | exact (Kd.R_reads' HO_6.out).2.2 | (with_reducible refine Kd.C_alloc ?_ _) | (with_reducible refine Kd.C_drewN ?_ _) | (with_reducible refine Kd.C_drew ?_))); (case side2 => exact (Kd.R_reads' HO_6.out).2.1); (case side3 => repeat (first | exact (Kd.R_reads' HO806.out).2.2 | (with_reducible refine Kd.C_alloc ?_ _) | (with_reducible refine Kd.C_drewN ?_ _) | (with_reducible refine Kd.C_drew ?_))); (case side4 => exact (Kd.R_reads' HO806.out).2.1); rintro e w43 ⟨v808, rfl, ho0, hb⟩; refine ⟨_, rfl, ?_⟩; have n0_ := Sd.mk (Kd.R_elder' (sqR HO_6.out) (Kd.R_base ho0) hb); have n1_ := Sd.mk (Kd.R_elder' (sqR HO_7.out) (Kd.R_base ho0) hb); have n2_ := Sd.mk (Kd.R_elder' (sqR HO806.out) (Kd.R_base ho0) hb); have n3_ := Sd.mk (Kd.R_lower (Kd.R_new' (Kd.R_new' (Kd.R_new' ho0 (Kd.R_lt (sqR HO_6.out))) (Kd.R_lt (sqR HO_7.out))) (Kd.R_lt (sqR HO806.out))) (bsz sqB)); have n4_ := Sd.mk (bst sqB hb); clear HO_6; clear HO_7; clear HO806; clear HB; have HO_6 := n0_; have HO_7 := n1_; have HO806 := n2_; have HO809 := n3_; have HB := n4_; clear n0_ n1_ n2_ n3_ n4_; (try clear hb); (try clear hb2); (try clear hk); (try clear hi); (try clear ho0)))
          go_meet
          case rel => exact ⟨_, (t807), (x7_4), H', ⟨by have := HJ4.out; have := HJ16.out; have := HJ24.out; have := HK4.out; first | omega | exact Nat.le_refl _⟩, ⟨by (with_reducible repeat (first | apply Kd.R_alloc | apply Kd.R_drewN | apply Kd.R_drew)); exact Kd.R_mono HO_6.out (fun _ hk => ⟨hk.1.1, hk.1.1⟩)⟩, ⟨by (with_reducible repeat (first | apply Kd.R_alloc | apply Kd.R_drewN | apply Kd.R_drew)); exact Kd.R_mono HO_7.out (fun _ hk => ⟨hk.1.1, hk.2⟩)⟩, ⟨by (with_reducible repeat (first | apply Kd.R_alloc | apply Kd.R_drewN | apply Kd.R_drew)); exact Kd.R_mono HO809.out (fun _ hk => ⟨hk.1.2, hk.1.2⟩)⟩, ⟨by (with_reducible repeat (first | apply Kd.R_alloc | apply Kd.R_drewN | apply Kd.R_drew)); exact Kd.R_mono HO_7.out (fun _ hk => ⟨hk.1.1, hk.2⟩)⟩, ⟨sqB⟩⟩
         case rest =>
          clear HC32
          try clear c2
          try clear p2
          try clear c3
          try clear c4
          try clear c6
          try clear p6
          try clear c7
          try clear c8
          try clear c8b0
          try clear c20
          try clear c20b0
          try clear c22
          try clear c22b0
          try clear c26
          try clear c26b0
          try clear c28
          try clear c28b0
          try clear c31
          try clear c31b0
          try clear c33
          try clear c33b0
          try clear c43
          try clear p2
          try clear p6
          obtain ⟨kq, x13_31, x14_31, HA, HJ31, HO_6, HO_7, HO_13, HO_14, HB⟩ := hcut
          cases kq with
          | zero => exact absurd HA.out (by simp [r2_Shortest.j6])
          | succ kj31 =>
           have H := HA.out
           clear HA
           simp only [r2_Shortest.j6] at H
           obtain ⟨⟨t810, t813⟩, A44, H⟩ := sqO H
           try dsimp only at H
           obtain ⟨t816, A45, H⟩ := sqO H
           try dsimp only at H
           obtain ⟨t817, A46, H⟩ := sqO H
           try dsimp only at H
           obtain ⟨t818, A47, H⟩ := sqO H
           try dsimp only at H
           obtain ⟨t819, A48, H⟩ := sqO H
           try dsimp only at H
           obtain ⟨t822, A49, H⟩ := sqO H
           try dsimp only at H
           have HC50 := Sd.mk H
           clear H
           obtain ⟨Ao51, co51, eo51⟩ := Kd.R_slice HO_13.out
           subst eo51
           obtain ⟨Ao52, co52, eo52⟩ := Kd.R_slice HO_14.out
           subst eo52
           go_upto_region 28 with (first | ((with_reducible refine gcl (f := 77) rfl ?_); refine gL (some 97) rfl rfl Tryz.func77 (by kernel_rfl) rfl #[.slice Ao51 x13_31.length co51, .slice Ao52 x14_31.length co52] rfl sqA ?_; (with_reducible refine (r2_Over.calls kj31 (fun k_ => some k_ = (.slice Ao51 x13_31.length co51 : Value).ownBlock) _ _ x13_31 _ _ x14_31 t810 t813 _ ?side1 ?side2 ?side3 A44.out).mono ?_); (case side1 => exact Kd.R_V (Kd.R_tight rfl (HO_13.out))); (case side2 => repeat (first | exact (Kd.R_reads' HO_14.out).2.2 | (with_reducible refine Kd.C_alloc ?_ _) | (with_reducible refine Kd.C_drewN ?_ _) | (with_reducible refine Kd.C_drew ?_))); (case side3 => exact (Kd.R_reads' HO_14.out).2.1); rintro e w53 ⟨v811, v814, rfl, ho0, ho1, hb⟩; refine ⟨_, rfl, ?_⟩; have n0_ := Sd.mk (Kd.R_elder' (sqR HO_6.out) (Kd.R_base ho0) hb); have n1_ := Sd.mk (Kd.R_elder' (sqR HO_7.out) (Kd.R_base ho0) hb); have n2_ := Sd.mk (Kd.R_elder' (sqR HO_13.out) (Kd.R_base ho0) hb); have n3_ := Sd.mk (Kd.R_elder' (sqR HO_14.out) (Kd.R_base ho0) hb); have n4_ := Sd.mk (Kd.R_lower (Kd.R_new' (Kd.R_new' (Kd.R_new' (Kd.R_new' (Kd.R_mono (ok' := fun k_ => True) ho0 (fun _ hk_ => trivial)) (Kd.R_lt (sqR HO_6.out))) (Kd.R_lt (sqR HO_7.out))) (Kd.R_lt (sqR HO_13.out))) (Kd.R_lt (sqR HO_14.out))) (bsz sqB)); have n5_ := Sd.mk (Kd.V_lower (Kd.V_mono (ok' := fun k_ => some k_ ≠ (v811 : Value).ownBlock ∧ some k_ ≠ (.slice Ao19 x7_4.length co19 : Value).ownBlock ∧ some k_ ≠ (.slice Ao52 x14_31.length co52 : Value).ownBlock) ho1 (fun k_ hk_ => ⟨hk_.2, Or.elim hk_.1 (fun hs_ => ((HO_13.out).1 k_ hs_.symm).1) (fun hn_ => (Kd.fresh' (Kd.R_lt (sqR HO_7.out)) k_ hn_)), Or.elim hk_.1 (fun hs_ => ((HO_13.out).1 k_ hs_.symm).2) (fun hn_ => (Kd.fresh' (Kd.R_lt (sqR HO_14.out)) k_ hn_))⟩)) (bsz sqB)); have n6_ := Sd.mk (bst sqB hb); clear HO_6; clear HO_7; clear HO_13; clear HO_14; clear HB; have HO_6 := n0_; have HO_7 := n1_; have HO_13 := n2_; have HO_14 := n3_; have HO812 := n4_; have HO815 := n5_; have HB := n6_; clear n0_ n1_ n2_ n3_ n4_ n5_ n6_; (try clear hb); (try clear hb2); (try clear hk); (try clear hi); (try clear ho0); (try clear ho1); obtain ⟨Ao54, co54, eo54⟩ := Kd.R_slice HO812.out; subst eo54) | ((with_reducible refine gcl (f := 78) rfl ?_); refine gL (some 101) rfl rfl Tryz.func78 (by kernel_rfl) rfl #[.slice Ao54 t810.length co54] rfl sqA ?_; (with_reducible refine (r2_value.calls kj31 _ _ t810 t816 _ ?side1 ?side2 A45.out).mono ?_); (case side1 => repeat (first | exact (Kd.R_reads' HO812.out).2.2 | (with_reducible refine Kd.C_alloc ?_ _) | (with_reducible refine Kd.C_drewN ?_ _) | (with_reducible refine Kd.C_drew ?_))); (case side2 => exact (Kd.R_reads' HO812.out).2.1); rintro e w' ⟨rfl, ⟨nd, rfl⟩⟩; refine ⟨_, rfl, ?_⟩) | ((with_reducible refine gcl (f := 79) rfl ?_); refine gL (some 107) rfl rfl Tryz.func79 (by kernel_rfl) rfl #[.int .u64 t816, .int .i64 (wrap64 ((wrap64 (x8_24 - x11_4)) + 1)), .int .u64 a0] rfl sqA ?_; (with_reducible refine (r2_reads.calls kj31 t816 (wrap64 ((wrap64 (x8_24 - x11_4)) + 1)) a0 t817 _ A46.out).mono ?_); rintro e w55 ⟨rfl, hb⟩; refine ⟨_, rfl, ?_⟩; have n0_ := Sd.mk (Kd.R_below (sqR HO_6.out) hb); have n1_ := Sd.mk (Kd.R_below (sqR HO_7.out) hb); have n2_ := Sd.mk (Kd.R_below (sqR HO_13.out) hb); have n3_ := Sd.mk (Kd.R_below (sqR HO_14.out) hb); have n4_ := Sd.mk (Kd.R_below (sqR HO812.out) hb); have n5_ := Sd.mk (Kd.V_below (sqV HO815.out) hb); have n6_ := Sd.mk (bst sqB hb); clear HO_6; clear HO_7; clear HO_13; clear HO_14; clear HO812; clear HO815; clear HB; have HO_6 := n0_; have HO_7 := n1_; have HO_13 := n2_; have HO_14 := n3_; have HO812 := n4_; have HO815 := n5_; have HB := n6_; clear n0_ n1_ n2_ n3_ n4_ n5_ n6_; (try clear hb); (try clear hb2); (try clear hk); (try clear hi)) | ((with_reducible refine gcl (f := 79) rfl ?_); refine gL (some 111) rfl rfl Tryz.func79 (by kernel_rfl) rfl #[.int .u64 (IntKind.u64.wrap (t816 + 1)), .int .i64 (wrap64 ((wrap64 (x8_24 - x11_4)) + 1)), .int .u64 a0] rfl sqA ?_; (with_reducible refine (r2_reads.calls kj31 (IntKind.u64.wrap (t816 + 1)) (wrap64 ((wrap64 (x8_24 - x11_4)) + 1)) a0 t818 _ A47.out).mono ?_); rintro e w56 ⟨rfl, hb⟩; refine ⟨_, rfl, ?_⟩; have n0_ := Sd.mk (Kd.R_below (sqR HO_6.out) hb); have n1_ := Sd.mk (Kd.R_below (sqR HO_7.out) hb); have n2_ := Sd.mk (Kd.R_below (sqR HO_13.out) hb); have n3_ := Sd.mk (Kd.R_below (sqR HO_14.out) hb); have n4_ := Sd.mk (Kd.R_below (sqR HO812.out) hb); have n5_ := Sd.mk (Kd.V_below (sqV HO815.out) hb); have n6_ := Sd.mk (bst sqB hb); clear HO_6; clear HO_7; clear HO_13; clear HO_14; clear HO812; clear HO815; clear HB; have HO_6 := n0_; have HO_7 := n1_; have HO_13 := n2_; have HO_14 := n3_; have HO812 := n4_; have HO815 := n5_; have HB := n6_; clear n0_ n1_ n2_ n3_ n4_ n5_ n6_; (try clear hb); (try clear hb2); (try clear hk); (try clear hi); obtain ⟨Ao57, co57, eo57⟩ := Kd.V_slice HO815.out; subst eo57) | ((with_reducible refine gcl (f := 61) rfl ?_); refine gL (some 113) rfl rfl Tryz.func61 (by kernel_rfl) rfl #[.slice Ao57 t813.length co57, .int .u32 2, .int .u32 0] rfl sqA ?_; (with_reducible refine (r2_Times.calls kj31 _ _ t813 2 0 t819 _ ?side1 ?side2 A48.out).mono ?_); (case side1 => repeat (first | exact (Kd.V_reads' HO815.out).2.2 | (with_reducible refine Kd.C_alloc ?_ _) | (with_reducible refine Kd.C_drewN ?_ _) | (with_reducible refine Kd.C_drew ?_))); (case side2 => exact (Kd.V_reads' HO815.out).2.1); rintro e w58 ⟨v820, rfl, ho0, hb⟩; refine ⟨_, rfl, ?_⟩; have n0_ := Sd.mk (Kd.R_elder' (sqR HO_6.out) (Kd.R_base ho0) hb); have n1_ := Sd.mk (Kd.R_elder' (sqR HO_7.out) (Kd.R_base ho0) hb); have n2_ := Sd.mk (Kd.R_elder' (sqR HO_13.out) (Kd.R_base ho0) hb); have n3_ := Sd.mk (Kd.R_elder' (sqR HO_14.out) (Kd.R_base ho0) hb); have n4_ := Sd.mk (Kd.R_elder' (sqR HO812.out) (Kd.R_base ho0) hb); have n5_ := Sd.mk (Kd.V_elder' (sqV HO815.out) (Kd.R_base ho0) hb); have n6_ := Sd.mk (Kd.R_lower (Kd.R_new' (Kd.R_new' (Kd.R_new' (Kd.R_new' (Kd.R_new' ho0 (Kd.R_lt (sqR HO_6.out))) (Kd.R_lt (sqR HO_7.out))) (Kd.R_lt (sqR HO_13.out))) (Kd.R_lt (sqR HO_14.out))) (Kd.R_lt (sqR HO812.out))) (bsz sqB)); have n7_ := Sd.mk (bst sqB hb); clear HO_6; clear HO_7; clear HO_13; clear HO_14; clear HO812; clear HO815; clear HB; have HO_6 := n0_; have HO_7 := n1_; have HO_13 := n2_; have HO_14 := n3_; have HO812 := n4_; have HO815 := n5_; have HO821 := n6_; have HB := n7_; clear n0_ n1_ n2_ n3_ n4_ n5_ n6_ n7_; (try clear hb); (try clear hb2); (try clear hk); (try clear hi); (try clear ho0); obtain ⟨Ao59, co59, eo59⟩ := Kd.R_slice HO821.out; subst eo59) | ((with_reducible refine gcl (f := 80) rfl ?_); refine gL (some 115) rfl rfl Tryz.func80 (by kernel_rfl) rfl #[.slice Ao59 t819.length co59, .slice Ao52 x14_31.length co52] rfl sqA ?_; (with_reducible refine (r2_Cmp.calls kj31 _ _ t819 _ _ x14_31 t822 _ ?side1 ?side2 ?side3 ?side4 A49.out).mono ?_); (case side1 => repeat (first | exact (Kd.R_reads' HO821.out).2.2 | (with_reducible refine Kd.C_alloc ?_ _) | (with_reducible refine Kd.C_drewN ?_ _) | (with_reducible refine Kd.C_drew ?_))); (case side2 => exact (Kd.R_reads' HO821.out).2.1); (case side3 => repeat (first | exact (Kd.R_reads' HO_14.out).2.2 | (with_reducible refine Kd.C_alloc ?_ _) | (with_reducible refine Kd.C_drewN ?_ _) | (with_reducible refine Kd.C_drew ?_))); (case side4 => exact (Kd.R_reads' HO_14.out).2.1); rintro e w' ⟨rfl, ⟨nd, rfl⟩⟩; refine ⟨_, rfl, ?_⟩))
           (try simp only [Act.put, List.setIfInBounds_toArray, List.set_cons_zero, List.set_cons_succ])
           go_cut [133] (fun v133 wc => ∃ (kq : Nat) (x133_49 : Bool), v133 = .bool x133_49 ∧ Sd (r2_Shortest.j7 kq a0 x6_4 x7_4 x8_24 x11_4 (wrap64 ((wrap64 (x8_24 - x11_4)) + 1)) t816 (IntKind.u64.wrap (t816 + 1)) t818 x133_49 = some (r1, r2)) ∧ Sd (kq ≤ kj31) ∧ Sd (Kd.R (Kd.int .u32) 83 wc w.heap.size (fun k_ => some k_ ≠ ((.slice Ao19 x7_4.length co19) : Value).ownBlock) (.slice Ao18 x6_4.length co18) x6_4) ∧ Sd (Kd.R (Kd.int .u32) 83 wc w.heap.size (fun k_ => some k_ ≠ ((.slice Ao18 x6_4.length co18) : Value).ownBlock) (.slice Ao19 x7_4.length co19) x7_4) ∧ Sd (Below w.heap.size w wc))
           case first =>
            have H := HC50.out
            clear HC50
            by_cases c60 : t817 = true
            case neg =>
             replace c60 := Bool.eq_false_iff.mpr c60
             subst c60
             have H1 : (r2_Shortest.j7 kj31 a0 x6_4 x7_4 x8_24 x11_4 (wrap64 ((wrap64 (x8_24 - x11_4)) + 1)) t816 (IntKind.u64.wrap (t816 + 1)) t818 false) = some (r1, r2) := by rw [if_neg (show ¬ (false = true) by decide)] at H; exact H
             clear H
             have H := H1
             clear H1
             have H' := Sd.mk H
             clear H
             go_wp2
             go_meet
             case rel => exact ⟨_, (false), sqE, H', ⟨by have := HJ4.out; have := HJ16.out; have := HJ24.out; have := HK4.out; have := HJ31.out; first | omega | exact Nat.le_refl _⟩, ⟨by (with_reducible repeat (first | apply Kd.R_alloc | apply Kd.R_drewN | apply Kd.R_drew)); exact Kd.R_mono HO_6.out (fun _ hk => hk.1.1.1)⟩, ⟨by (with_reducible repeat (first | apply Kd.R_alloc | apply Kd.R_drewN | apply Kd.R_drew)); exact Kd.R_mono HO_7.out (fun _ hk => hk.1.1.1)⟩, ⟨sqB⟩⟩
            subst c60
            have H1 : (if t818 = true then (if t822 < 0 then (r2_Shortest.j7 kj31 a0 x6_4 x7_4 x8_24 x11_4 (wrap64 ((wrap64 (x8_24 - x11_4)) + 1)) t816 (IntKind.u64.wrap (t816 + 1)) t818 true) else (if t822 = 0 then (r2_Shortest.j7 kj31 a0 x6_4 x7_4 x8_24 x11_4 (wrap64 ((wrap64 (x8_24 - x11_4)) + 1)) t816 (IntKind.u64.wrap (t816 + 1)) t818 ((Int.tmod t816 2) == 0)) else (r2_Shortest.j7 kj31 a0 x6_4 x7_4 x8_24 x11_4 (wrap64 ((wrap64 (x8_24 - x11_4)) + 1)) t816 (IntKind.u64.wrap (t816 + 1)) t818 false))) else (r2_Shortest.j7 kj31 a0 x6_4 x7_4 x8_24 x11_4 (wrap64 ((wrap64 (x8_24 - x11_4)) + 1)) t816 (IntKind.u64.wrap (t816 + 1)) t818 true)) = some (r1, r2) := by rw [if_pos rfl] at H; exact H
            clear H
            have H := H1
            clear H1
            by_cases c61 : t818 = true
            case neg =>
             replace c61 := Bool.eq_false_iff.mpr c61
             subst c61
             have H1 : (r2_Shortest.j7 kj31 a0 x6_4 x7_4 x8_24 x11_4 (wrap64 ((wrap64 (x8_24 - x11_4)) + 1)) t816 (IntKind.u64.wrap (t816 + 1)) false true) = some (r1, r2) := by rw [if_neg (show ¬ (false = true) by decide)] at H; exact H
             clear H
             have H := H1
             clear H1
             have H' := Sd.mk H
             clear H
             go_wp2
             go_meet
             case rel => exact ⟨_, (true), sqE, H', ⟨by have := HJ4.out; have := HJ16.out; have := HJ24.out; have := HK4.out; have := HJ31.out; first | omega | exact Nat.le_refl _⟩, ⟨by (with_reducible repeat (first | apply Kd.R_alloc | apply Kd.R_drewN | apply Kd.R_drew)); exact Kd.R_mono HO_6.out (fun _ hk => hk.1.1.1)⟩, ⟨by (with_reducible repeat (first | apply Kd.R_alloc | apply Kd.R_drewN | apply Kd.R_drew)); exact Kd.R_mono HO_7.out (fun _ hk => hk.1.1.1)⟩, ⟨sqB⟩⟩
            subst c61
            have H1 : (if t822 < 0 then (r2_Shortest.j7 kj31 a0 x6_4 x7_4 x8_24 x11_4 (wrap64 ((wrap64 (x8_24 - x11_4)) + 1)) t816 (IntKind.u64.wrap (t816 + 1)) true true) else (if t822 = 0 then (r2_Shortest.j7 kj31 a0 x6_4 x7_4 x8_24 x11_4 (wrap64 ((wrap64 (x8_24 - x11_4)) + 1)) t816 (IntKind.u64.wrap (t816 + 1)) true ((Int.tmod t816 2) == 0)) else (r2_Shortest.j7 kj31 a0 x6_4 x7_4 x8_24 x11_4 (wrap64 ((wrap64 (x8_24 - x11_4)) + 1)) t816 (IntKind.u64.wrap (t816 + 1)) true false))) = some (r1, r2) := by rw [if_pos rfl] at H; exact H
            clear H
            have H := H1
            clear H1
            by_cases c62 : t822 < 0
            ·rw [if_pos c62] at H
             have c62b0 := decide_eq_true c62
             clear c62
             (first | rw [c62b0] | (simp only [i64_w, i32_w]; rw [c62b0]) | skip)
             have H' := Sd.mk H
             clear H
             go_wp2
             go_meet
             case rel => exact ⟨_, (true), sqE, H', ⟨by have := HJ4.out; have := HJ16.out; have := HJ24.out; have := HK4.out; have := HJ31.out; first | omega | exact Nat.le_refl _⟩, ⟨by (with_reducible repeat (first | apply Kd.R_alloc | apply Kd.R_drewN | apply Kd.R_drew)); exact Kd.R_mono HO_6.out (fun _ hk => hk.1.1.1)⟩, ⟨by (with_reducible repeat (first | apply Kd.R_alloc | apply Kd.R_drewN | apply Kd.R_drew)); exact Kd.R_mono HO_7.out (fun _ hk => hk.1.1.1)⟩, ⟨sqB⟩⟩
            rw [if_neg c62] at H
            have c62b0 := decide_eq_false c62
            clear c62
            (first | rw [c62b0] | (simp only [i64_w, i32_w]; rw [c62b0]) | skip)
            by_cases c63 : t822 = 0
            ·rw [if_pos c63] at H
             have c63b0 := beq_iff_eq.mpr c63
             have c63b1 := bne_eq_false_iff_eq.mpr c63
             clear c63
             have H' := Sd.mk H
             clear H
             go_wp2
             go_meet
             case rel => exact ⟨_, (((Int.tmod t816 2) == 0)), sqE, H', ⟨by have := HJ4.out; have := HJ16.out; have := HJ24.out; have := HK4.out; have := HJ31.out; first | omega | exact Nat.le_refl _⟩, ⟨by (with_reducible repeat (first | apply Kd.R_alloc | apply Kd.R_drewN | apply Kd.R_drew)); exact Kd.R_mono HO_6.out (fun _ hk => hk.1.1.1)⟩, ⟨by (with_reducible repeat (first | apply Kd.R_alloc | apply Kd.R_drewN | apply Kd.R_drew)); exact Kd.R_mono HO_7.out (fun _ hk => hk.1.1.1)⟩, ⟨sqB⟩⟩
            rw [if_neg c63] at H
            have c63b0 := beq_eq_false_iff_ne.mpr c63
            have c63b1 := bne_iff_ne.mpr c63
            have H' := Sd.mk H
            clear H
            go_wp2
            go_meet
            case rel => exact ⟨_, (false), sqE, H', ⟨by have := HJ4.out; have := HJ16.out; have := HJ24.out; have := HK4.out; have := HJ31.out; first | omega | exact Nat.le_refl _⟩, ⟨by (with_reducible repeat (first | apply Kd.R_alloc | apply Kd.R_drewN | apply Kd.R_drew)); exact Kd.R_mono HO_6.out (fun _ hk => hk.1.1.1)⟩, ⟨by (with_reducible repeat (first | apply Kd.R_alloc | apply Kd.R_drewN | apply Kd.R_drew)); exact Kd.R_mono HO_7.out (fun _ hk => hk.1.1.1)⟩, ⟨sqB⟩⟩
           case rest =>
            clear HC50
            try clear c2
            try clear p2
            try clear c3
            try clear c4
            try clear c6
            try clear p6
            try clear c7
            try clear c8
            try clear c8b0
            try clear c20
            try clear c20b0
            try clear c22
            try clear c22b0
            try clear c26
            try clear c26b0
            try clear c28
            try clear c28b0
            try clear c31
            try clear c31b0
            try clear c33
            try clear c33b0
            try clear c43
            try clear c60
            try clear c61
            try clear c62
            try clear c62b0
            try clear c63
            try clear c63b0
            try clear c63b1
            try clear p2
            try clear p6
            obtain ⟨kq, x133_49, rfl, HA, HJ49, HO_6, HO_7, HB⟩ := hcut
            cases kq with
            | zero => exact absurd HA.out (by simp [r2_Shortest.j7])
            | succ kj49 =>
             have H := HA.out
             clear HA
             simp only [r2_Shortest.j7] at H
             by_cases c64 : x133_49 = true
             ·subst c64
              have H1 : ((r2_bare.f kj49 t816 (wrap64 ((wrap64 (x8_24 - x11_4)) + 1))).bind fun bt823 => (some (bt823.1, bt823.2))) = some (r1, r2) := by rw [if_pos rfl] at H; exact H
              clear H
              have H := H1
              clear H1
              obtain ⟨⟨t823, t824⟩, A65, H⟩ := sqO H
              try dsimp only at H
              simp only [Option.some.injEq, Prod.mk.injEq] at H
              obtain ⟨rfl, rfl⟩ := H
              go_wp2_with (first | ((with_reducible refine gcl (f := 81) rfl ?_); refine gL (some 136) rfl rfl Tryz.func81 (by kernel_rfl) rfl #[.int .u64 t816, .int .i64 (wrap64 ((wrap64 (x8_24 - x11_4)) + 1))] rfl sqA ?_; (with_reducible refine (r2_bare.calls kj49 t816 (wrap64 ((wrap64 (x8_24 - x11_4)) + 1)) t823 t824 _ A65.out).mono ?_); rintro e w' ⟨rfl, ⟨nd, rfl⟩⟩; refine ⟨_, rfl, ?_⟩))
              go_ret2
              exact ⟨sqE', sqB⟩
             replace c64 := Bool.eq_false_iff.mpr c64
             subst c64
             have H1 : (if t818 = true then ((r2_bare.f kj49 (IntKind.u64.wrap (t816 + 1)) (wrap64 ((wrap64 (x8_24 - x11_4)) + 1))).bind fun bt825 => (some (bt825.1, bt825.2))) else (r2_Shortest.l2 kj49 a0 x6_4 x7_4 x8_24 (wrap64 (x11_4 + 1)))) = some (r1, r2) := by rw [if_neg (show ¬ (false = true) by decide)] at H; exact H
             clear H
             have H := H1
             clear H1
             by_cases c66 : t818 = true
             ·subst c66
              have H1 : ((r2_bare.f kj49 (IntKind.u64.wrap (t816 + 1)) (wrap64 ((wrap64 (x8_24 - x11_4)) + 1))).bind fun bt825 => (some (bt825.1, bt825.2))) = some (r1, r2) := by rw [if_pos rfl] at H; exact H
              clear H
              have H := H1
              clear H1
              obtain ⟨⟨t825, t826⟩, A67, H⟩ := sqO H
              try dsimp only at H
              simp only [Option.some.injEq, Prod.mk.injEq] at H
              obtain ⟨rfl, rfl⟩ := H
              go_wp2_with (first | ((with_reducible refine gcl (f := 81) rfl ?_); refine gL (some 142) rfl rfl Tryz.func81 (by kernel_rfl) rfl #[.int .u64 (IntKind.u64.wrap (t816 + 1)), .int .i64 (wrap64 ((wrap64 (x8_24 - x11_4)) + 1))] rfl sqA ?_; (with_reducible refine (r2_bare.calls kj49 (IntKind.u64.wrap (t816 + 1)) (wrap64 ((wrap64 (x8_24 - x11_4)) + 1)) t825 t826 _ A67.out).mono ?_); rintro e w' ⟨rfl, ⟨nd, rfl⟩⟩; refine ⟨_, rfl, ?_⟩))
              go_ret2
              exact ⟨sqE', sqB⟩
             replace c66 := Bool.eq_false_iff.mpr c66
             subst c66
             have H1 : (r2_Shortest.l2 kj49 a0 x6_4 x7_4 x8_24 (wrap64 (x11_4 + 1))) = some (r1, r2) := by rw [if_neg (show ¬ (false = true) by decide)] at H; exact H
             clear H
             have H := H1
             clear H1
             have H' := Sd.mk H
             clear H
             go_wp2
             go_roundg kj49
             case measure => have := HJ4.out; have := HJ16.out; have := HJ24.out; have := HK4.out; have := HJ31.out; have := HJ49.out; omega
             case rel => exact ⟨(wrap64 (x11_4 + 1)), sqE, H', ⟨by have := HJ4.out; have := HJ16.out; have := HJ24.out; have := HK4.out; have := HJ31.out; have := HJ49.out; omega⟩, ⟨sqR HO_6.out⟩, ⟨sqR HO_7.out⟩, ⟨sqB⟩⟩
end Go.Proofs.YtfmjdoofopamkaaGreatDoor.W
