import Derived.Test.YtfmjdoofopamkaaGreatDoorWx0
import Derived.Test.YtfmjdoofopamkaaGreatDoorWx8
import Derived.Test.YtfmjdoofopamkaaGreatDoorWx12
import Derived.Test.YtfmjdoofopamkaaGreatDoorWx13
import Derived.Test.YtfmjdoofopamkaaGreatDoorWx14
namespace Go.Proofs.YtfmjdoofopamkaaGreatDoor.W
open Go.RowKit Go.Proofs.YtfmjdoofopamkaaGreatDoorW.PrintWords Go.Proofs.YtfmjdoofopamkaaGreatDoorW.PrintLast Go.Proofs.YtfmjdoofopamkaaGreatDoorW.PrintMore
set_option maxHeartbeats 8000000
set_option maxRecDepth 100000
attribute [local go_sem] max2_int min2_int max_two min_two max_three min_three max_four min_four
set_option linter.unusedVariables false
set_option linter.unusedSimpArgs false
def r2_Nearest.l0 : Nat → ByteArray → Int → List Int → Int → Option (Int × Bool)
 | 0, _, _, _, _ => none
 | k + 1, x0, x1, x6, x7 => if x7 < (x0.size : Int) then (if 0 ≤ x7 then ((r2_Times.f k x6 10 (((bt x0 x7) - 48) % 256)).bind fun t417 => (r2_Nearest.l0 k x0 x1 t417 (wrap64 (x7 + 1)))) else (none)) else (if x1 ≥ 0 then ((r2_Ten.f k x1).bind fun t420 => ((r2_Product.f k x6 t420).bind fun t423 => ((r2_Of.f k 1).bind fun t426 => ((r2_Near.f k t423 t426).bind fun bt429 => (some (bt429.1, bt429.2)))))) else ((r2_Ten.f k (wrap64 (-x1))).bind fun t431 => ((r2_Near.f k x6 t431).bind fun bt434 => (some (bt434.1, bt434.2)))))
def r2_Nearest.f (k : Nat) (a0 : ByteArray) (a1 : Int) : Option (Int × Bool) := r2_Nearest.l0 k a0 a1 ([] : List Int) 0
theorem r2_Nearest.mono_l : ∀ k, (∀ y0 y1 y2 y3, LeO (r2_Nearest.l0 k y0 y1 y2 y3) (r2_Nearest.l0 (k + 1) y0 y1 y2 y3))
 | 0 => fun _ _ _ _ r h => by simp [r2_Nearest.l0] at h
 | k + 1 => by
  have ih0 := r2_Nearest.mono_l k
  intro y0 y1 y2 y3
  unfold r2_Nearest.l0
  repeat' first | (with_reducible first | apply ih0 | apply r2_Near.mono | apply r2_Of.mono | apply r2_Product.mono | apply r2_Ten.mono | apply r2_Times.mono | apply LeO.refl | apply LeO.none | refine LeO.ite ?_ ?_ | refine LeO.bind ?_ (fun _ => ?_)) | apply LeO.none | refine LeO.ite ?_ ?_ | refine LeO.bind ?_ (fun _ => ?_)
theorem r2_Nearest.mono : ∀ a0 a1 k, LeO (r2_Nearest.f k a0 a1) (r2_Nearest.f (k + 1) a0 a1) := by
 intro a0 a1 k
 have ih0 := r2_Nearest.mono_l k
 unfold r2_Nearest.f
 repeat' first | (with_reducible first | apply ih0 | apply r2_Near.mono | apply r2_Of.mono | apply r2_Product.mono | apply r2_Ten.mono | apply r2_Times.mono | apply LeO.refl | apply LeO.none | refine LeO.ite ?_ ?_ | refine LeO.bind ?_ (fun _ => ?_)) | apply LeO.none | refine LeO.ite ?_ ?_ | refine LeO.bind ?_ (fun _ => ?_)
theorem r2_Nearest.calls (k : Nat) (a0 : ByteArray) (a1 : Int) (r1 : Int) (r2 : Bool) (w : World) (h : r2_Nearest.f k a0 a1 = some (r1, r2)) :
  Calls Tryz.prog 33 #[.string a0, .int .i64 a1] w fun e w' => e = .returned (.tuple #[.int .u64 r1, .bool r2]) ∧ Below w.heap.size w w' := by
 have HB := Sd.mk (Below.refl w.heap.size w)
 have H : (r2_Nearest.l0 k a0 a1 ([] : List Int) 0) = some (r1, r2) := h
 clear h
 have H' := Sd.mk H
 clear H
 go_enter Tryz.func33, Tryz.ntmps33
 go_wp2
 go_loopg [6, 7] k (fun kq v6 v7 w' => ∃ (x6_1 : List Int) (x7_1 : Int), v7 = .int .i64 x7_1 ∧ Sd (r2_Nearest.l0 kq a0 a1 x6_1 x7_1 = some (r1, r2)) ∧ Sd (kq ≤ k) ∧ Sd (Kd.R (Kd.int .u32) 83 w' w.heap.size (fun _ => True) v6 x6_1) ∧ Sd (Below w.heap.size w w'))
 case atStart => exact ⟨(([] : List Int)), (0), sqE, H', ⟨Nat.le_refl _⟩, ⟨by first | exact Kd.R_nil _ _ _ _ _ | exact Kd.N_nil _ _ _ _ _ | exact Kd.V_nil _ _ _ _ _ | exact Kd.Q_nil _ _ _ _ _ | exact Kd.S_nil _ _ _ _ _⟩, ⟨sqB⟩⟩
 case round =>
  clear H'
  try clear p2
  obtain ⟨x6_1, x7_1, rfl, HA, HK1, HO_6, HB⟩ := hrel
  cases gk with
  | zero => exact absurd HA.out (by simp [r2_Nearest.l0])
  | succ k1 =>
   have H := HA.out
   clear HA
   simp only [r2_Nearest.l0] at H
   by_cases c3 : x7_1 < (a0.size : Int)
   ·rw [if_pos c3] at H
    have c3b0 := decide_eq_true c3
    clear c3
    by_cases c4 : 0 ≤ x7_1
    case neg => rw [if_neg c4] at H; exact absurd H (by simp)
    rw [if_pos c4] at H
    have c4b0 := decide_eq_true c4
    clear c4
    obtain ⟨t417, A6, H⟩ := sqO H
    try dsimp only at H
    have H' := Sd.mk H
    clear H
    have p5 : 0 ≤ (x7_1 : Int) := sqD
    have q5 : x7_1 < (a0.size : Int) := sqD
    have hx5 := bt_at a0 x7_1
    replace p5 := eq_true p5
    replace q5 := eq_true q5
    obtain ⟨Ao7, co7, eo7⟩ := Kd.R_slice HO_6.out
    subst eo7
    go_wp2_with (first | ((with_reducible refine gcl (f := 61) rfl ?_); refine gL (some 20) rfl rfl Tryz.func61 (by kernel_rfl) rfl #[.slice Ao7 x6_1.length co7, .int .u32 10, .int .u32 (((bt a0 x7_1) - 48) % 256)] rfl sqA ?_; (with_reducible refine (r2_Times.calls k1 _ _ x6_1 10 (((bt a0 x7_1) - 48) % 256) t417 _ ?side1 ?side2 A6.out).mono ?_); (case side1 => repeat (first | exact (Kd.R_reads' HO_6.out).2.2 | (with_reducible refine Kd.C_alloc ?_ _) | (with_reducible refine Kd.C_drewN ?_ _) | (with_reducible refine Kd.C_drew ?_))); (case side2 => exact (Kd.R_reads' HO_6.out).2.1); rintro e w8 ⟨v418, rfl, ho0, hb⟩; refine ⟨_, rfl, ?_⟩; have n0_ := Sd.mk (Kd.R_elder' (sqR HO_6.out) (Kd.R_base ho0) hb); have n1_ := Sd.mk (Kd.R_lower (Kd.R_new' ho0 (Kd.R_lt (sqR HO_6.out))) (bsz sqB)); have n2_ := Sd.mk (bst sqB hb); clear HO_6; clear HB; have HO_6 := n0_; have HO419 := n1_; have HB := n2_; clear n0_ n1_ n2_; (try clear hb); (try clear hb2); (try clear hk); (try clear hi); (try clear ho0)))
    go_roundg k1
    case measure => have := HK1.out; omega
    case rel => exact ⟨(t417), (wrap64 (x7_1 + 1)), sqE, H', ⟨by have := HK1.out; omega⟩, ⟨by (with_reducible repeat (first | apply Kd.R_alloc | apply Kd.R_drewN | apply Kd.R_drew)); exact Kd.R_mono HO419.out (fun _ hk => trivial)⟩, ⟨sqB⟩⟩
   rw [if_neg c3] at H
   have c3b0 := decide_eq_false c3
   clear c3
   by_cases c9 : a1 ≥ 0
   case neg =>
    rw [if_neg c9] at H
    have c9b0 := decide_eq_false c9
    clear c9
    obtain ⟨t431, A22, H⟩ := sqO H
    try dsimp only at H
    obtain ⟨⟨t434, t435⟩, A23, H⟩ := sqO H
    try dsimp only at H
    simp only [Option.some.injEq, Prod.mk.injEq] at H
    obtain ⟨rfl, rfl⟩ := H
    go_wp2_with (first | ((with_reducible refine gcl (f := 64) rfl ?_); refine gL (some 34) rfl rfl Tryz.func64 (by kernel_rfl) rfl #[.int .i64 (wrap64 (-a1))] rfl sqA ?_; (with_reducible refine (r2_Ten.calls k1 (wrap64 (-a1)) t431 _ A22.out).mono ?_); rintro e w24 ⟨v432, rfl, ho0, hb⟩; refine ⟨_, rfl, ?_⟩; have n0_ := Sd.mk (Kd.R_elder' (sqR HO_6.out) (Kd.R_base ho0) hb); have n1_ := Sd.mk (Kd.R_lower (Kd.R_new' ho0 (Kd.R_lt (sqR HO_6.out))) (bsz sqB)); have n2_ := Sd.mk (bst sqB hb); clear HO_6; clear HB; have HO_6 := n0_; have HO433 := n1_; have HB := n2_; clear n0_ n1_ n2_; (try clear hb); (try clear hb2); (try clear hk); (try clear hi); (try clear ho0); obtain ⟨Ao25, co25, eo25⟩ := Kd.R_slice HO_6.out; subst eo25; obtain ⟨Ao26, co26, eo26⟩ := Kd.R_slice HO433.out; subst eo26) | ((with_reducible refine gcl (f := 62) rfl ?_); refine gL (some 35) rfl rfl Tryz.func62 (by kernel_rfl) rfl #[.slice Ao25 x6_1.length co25, .slice Ao26 t431.length co26] rfl sqA ?_; (with_reducible refine (r2_Near.calls k1 _ _ x6_1 _ _ t431 t434 t435 _ ?side1 ?side2 ?side3 ?side4 A23.out).mono ?_); (case side1 => repeat (first | exact (Kd.R_reads' HO_6.out).2.2 | (with_reducible refine Kd.C_alloc ?_ _) | (with_reducible refine Kd.C_drewN ?_ _) | (with_reducible refine Kd.C_drew ?_))); (case side2 => exact (Kd.R_reads' HO_6.out).2.1); (case side3 => repeat (first | exact (Kd.R_reads' HO433.out).2.2 | (with_reducible refine Kd.C_alloc ?_ _) | (with_reducible refine Kd.C_drewN ?_ _) | (with_reducible refine Kd.C_drew ?_))); (case side4 => exact (Kd.R_reads' HO433.out).2.1); rintro e w27 ⟨rfl, hb⟩; refine ⟨_, rfl, ?_⟩; have n0_ := Sd.mk (Kd.R_below (sqR HO_6.out) hb); have n1_ := Sd.mk (Kd.R_below (sqR HO433.out) hb); have n2_ := Sd.mk (bst sqB hb); clear HO_6; clear HO433; clear HB; have HO_6 := n0_; have HO433 := n1_; have HB := n2_; clear n0_ n1_ n2_; (try clear hb); (try clear hb2); (try clear hk); (try clear hi)))
    go_ret2
    exact ⟨sqE', sqB⟩
   rw [if_pos c9] at H
   have c9b0 := decide_eq_true c9
   clear c9
   obtain ⟨t420, A10, H⟩ := sqO H
   try dsimp only at H
   obtain ⟨t423, A11, H⟩ := sqO H
   try dsimp only at H
   obtain ⟨t426, A12, H⟩ := sqO H
   try dsimp only at H
   obtain ⟨⟨t429, t430⟩, A13, H⟩ := sqO H
   try dsimp only at H
   simp only [Option.some.injEq, Prod.mk.injEq] at H
   obtain ⟨rfl, rfl⟩ := H
   go_wp2_with (first | ((with_reducible refine gcl (f := 64) rfl ?_); refine gL (some 25) rfl rfl Tryz.func64 (by kernel_rfl) rfl #[.int .i64 a1] rfl sqA ?_; (with_reducible refine (r2_Ten.calls k1 a1 t420 _ A10.out).mono ?_); rintro e w14 ⟨v421, rfl, ho0, hb⟩; refine ⟨_, rfl, ?_⟩; have n0_ := Sd.mk (Kd.R_elder' (sqR HO_6.out) (Kd.R_base ho0) hb); have n1_ := Sd.mk (Kd.R_lower (Kd.R_new' ho0 (Kd.R_lt (sqR HO_6.out))) (bsz sqB)); have n2_ := Sd.mk (bst sqB hb); clear HO_6; clear HB; have HO_6 := n0_; have HO422 := n1_; have HB := n2_; clear n0_ n1_ n2_; (try clear hb); (try clear hb2); (try clear hk); (try clear hi); (try clear ho0); obtain ⟨Ao15, co15, eo15⟩ := Kd.R_slice HO_6.out; subst eo15; obtain ⟨Ao16, co16, eo16⟩ := Kd.R_slice HO422.out; subst eo16) | ((with_reducible refine gcl (f := 63) rfl ?_); refine gL (some 26) rfl rfl Tryz.func63 (by kernel_rfl) rfl #[.slice Ao15 x6_1.length co15, .slice Ao16 t420.length co16] rfl sqA ?_; (with_reducible refine (r2_Product.calls k1 _ _ x6_1 _ _ t420 t423 _ ?side1 ?side2 ?side3 ?side4 A11.out).mono ?_); (case side1 => repeat (first | exact (Kd.R_reads' HO_6.out).2.2 | (with_reducible refine Kd.C_alloc ?_ _) | (with_reducible refine Kd.C_drewN ?_ _) | (with_reducible refine Kd.C_drew ?_))); (case side2 => exact (Kd.R_reads' HO_6.out).2.1); (case side3 => repeat (first | exact (Kd.R_reads' HO422.out).2.2 | (with_reducible refine Kd.C_alloc ?_ _) | (with_reducible refine Kd.C_drewN ?_ _) | (with_reducible refine Kd.C_drew ?_))); (case side4 => exact (Kd.R_reads' HO422.out).2.1); rintro e w17 ⟨v424, rfl, ho0, hb⟩; refine ⟨_, rfl, ?_⟩; have n0_ := Sd.mk (Kd.R_elder' (sqR HO_6.out) (Kd.R_base ho0) hb); have n1_ := Sd.mk (Kd.R_elder' (sqR HO422.out) (Kd.R_base ho0) hb); have n2_ := Sd.mk (Kd.R_lower (Kd.R_new' (Kd.R_new' ho0 (Kd.R_lt (sqR HO_6.out))) (Kd.R_lt (sqR HO422.out))) (bsz sqB)); have n3_ := Sd.mk (bst sqB hb); clear HO_6; clear HO422; clear HB; have HO_6 := n0_; have HO422 := n1_; have HO425 := n2_; have HB := n3_; clear n0_ n1_ n2_ n3_; (try clear hb); (try clear hb2); (try clear hk); (try clear hi); (try clear ho0)) | ((with_reducible refine gcl (f := 65) rfl ?_); refine gL (some 27) rfl rfl Tryz.func65 (by kernel_rfl) rfl #[.int .u64 1] rfl sqA ?_; (with_reducible refine (r2_Of.calls k1 1 t426 _ A12.out).mono ?_); rintro e w18 ⟨v427, rfl, ho0, hb⟩; refine ⟨_, rfl, ?_⟩; have n0_ := Sd.mk (Kd.R_elder' (sqR HO_6.out) (Kd.R_base ho0) hb); have n1_ := Sd.mk (Kd.R_elder' (sqR HO422.out) (Kd.R_base ho0) hb); have n2_ := Sd.mk (Kd.R_elder' (sqR HO425.out) (Kd.R_base ho0) hb); have n3_ := Sd.mk (Kd.R_lower (Kd.R_new' (Kd.R_new' (Kd.R_new' ho0 (Kd.R_lt (sqR HO_6.out))) (Kd.R_lt (sqR HO422.out))) (Kd.R_lt (sqR HO425.out))) (bsz sqB)); have n4_ := Sd.mk (bst sqB hb); clear HO_6; clear HO422; clear HO425; clear HB; have HO_6 := n0_; have HO422 := n1_; have HO425 := n2_; have HO428 := n3_; have HB := n4_; clear n0_ n1_ n2_ n3_ n4_; (try clear hb); (try clear hb2); (try clear hk); (try clear hi); (try clear ho0); obtain ⟨Ao19, co19, eo19⟩ := Kd.R_slice HO425.out; subst eo19; obtain ⟨Ao20, co20, eo20⟩ := Kd.R_slice HO428.out; subst eo20) | ((with_reducible refine gcl (f := 62) rfl ?_); refine gL (some 28) rfl rfl Tryz.func62 (by kernel_rfl) rfl #[.slice Ao19 t423.length co19, .slice Ao20 t426.length co20] rfl sqA ?_; (with_reducible refine (r2_Near.calls k1 _ _ t423 _ _ t426 t429 t430 _ ?side1 ?side2 ?side3 ?side4 A13.out).mono ?_); (case side1 => repeat (first | exact (Kd.R_reads' HO425.out).2.2 | (with_reducible refine Kd.C_alloc ?_ _) | (with_reducible refine Kd.C_drewN ?_ _) | (with_reducible refine Kd.C_drew ?_))); (case side2 => exact (Kd.R_reads' HO425.out).2.1); (case side3 => repeat (first | exact (Kd.R_reads' HO428.out).2.2 | (with_reducible refine Kd.C_alloc ?_ _) | (with_reducible refine Kd.C_drewN ?_ _) | (with_reducible refine Kd.C_drew ?_))); (case side4 => exact (Kd.R_reads' HO428.out).2.1); rintro e w21 ⟨rfl, hb⟩; refine ⟨_, rfl, ?_⟩; have n0_ := Sd.mk (Kd.R_below (sqR HO_6.out) hb); have n1_ := Sd.mk (Kd.R_below (sqR HO422.out) hb); have n2_ := Sd.mk (Kd.R_below (sqR HO425.out) hb); have n3_ := Sd.mk (Kd.R_below (sqR HO428.out) hb); have n4_ := Sd.mk (bst sqB hb); clear HO_6; clear HO422; clear HO425; clear HO428; clear HB; have HO_6 := n0_; have HO422 := n1_; have HO425 := n2_; have HO428 := n3_; have HB := n4_; clear n0_ n1_ n2_ n3_ n4_; (try clear hb); (try clear hb2); (try clear hk); (try clear hi)))
   go_ret2
   exact ⟨sqE', sqB⟩
end Go.Proofs.YtfmjdoofopamkaaGreatDoor.W
