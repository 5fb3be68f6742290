-- written by wip/pp.py of this session (the kit's print with patches); checked by Lean alone
import Derived.Test.YtfmjdoofopamkaaGreatDoorWx0
import Derived.Test.YtfmjdoofopamkaaGreatDoorWx4
import Derived.Test.YtfmjdoofopamkaaGreatDoorWx7
import Derived.Test.YtfmjdoofopamkaaGreatDoorWx8
import Derived.Test.YtfmjdoofopamkaaGreatDoorWx12
namespace Go.Proofs.YtfmjdoofopamkaaGreatDoor.W
open Go.RowKit Go.Proofs.YtfmjdoofopamkaaGreatDoorW.PrintWords Go.Proofs.YtfmjdoofopamkaaGreatDoorW.PrintLast Go.Proofs.YtfmjdoofopamkaaGreatDoorW.PrintMore
attribute [local go_sem] max2_int min2_int max_two min_two max_three min_three max_four min_four   -- for this text's walks alone
set_option linter.unusedVariables false
set_option linter.unusedSimpArgs false

/-! ### endonymref2_Nearest: function 33 -/
def endonymref2_Nearest.l0 : Nat → ByteArray → Int → List Int → Int → Option (Int × Bool)
 | 0, _, _, _, _ => none
 | k + 1, x0, x1, x6, x7 => if x7 < (x0.size : Int) then (if 0 ≤ x7 then ((endonymref2_Times.f k x6 10 (((bt x0 x7) - 48) % 256)).bind fun t417 => (endonymref2_Nearest.l0 k x0 x1 t417 (wrap64 (x7 + 1)))) else (none)) else (if x1 ≥ 0 then ((endonymref2_Ten.f k x1).bind fun t420 => ((endonymref2_Product.f k x6 t420).bind fun t423 => ((endonymref2_Of.f k 1).bind fun t426 => ((endonymref2_Near.f k t423 t426).bind fun bt429 => (some (bt429.1, bt429.2)))))) else ((endonymref2_Ten.f k (wrap64 (-x1))).bind fun t431 => ((endonymref2_Near.f k x6 t431).bind fun bt434 => (some (bt434.1, bt434.2)))))
def endonymref2_Nearest.f (k : Nat) (a0 : ByteArray) (a1 : Int) : Option (Int × Bool) := endonymref2_Nearest.l0 k a0 a1 ([] : List Int) 0
theorem endonymref2_Nearest.mono_l : ∀ k, (∀ y0 y1 y2 y3, LeO (endonymref2_Nearest.l0 k y0 y1 y2 y3) (endonymref2_Nearest.l0 (k + 1) y0 y1 y2 y3))
 | 0 => fun _ _ _ _ r h => by simp [endonymref2_Nearest.l0] at h
 | k + 1 => by
  have ih0 := endonymref2_Nearest.mono_l k
  intro y0 y1 y2 y3
  unfold endonymref2_Nearest.l0
  repeat' first | (with_reducible first | apply ih0 | apply endonymref2_Near.mono | apply endonymref2_Of.mono | apply endonymref2_Product.mono | apply endonymref2_Ten.mono | apply endonymref2_Times.mono | apply LeO.refl | apply LeO.none | refine LeO.ite ?_ ?_ | refine LeO.bind ?_ (fun _ => ?_)) | apply ih0 | apply endonymref2_Near.mono | apply endonymref2_Of.mono | apply endonymref2_Product.mono | apply endonymref2_Ten.mono | apply endonymref2_Times.mono | apply LeO.none | refine LeO.ite ?_ ?_ | refine LeO.bind ?_ (fun _ => ?_)
theorem endonymref2_Nearest.mono : ∀ a0 a1 k, LeO (endonymref2_Nearest.f k a0 a1) (endonymref2_Nearest.f (k + 1) a0 a1) := by
 intro a0 a1 k
 have ih0 := endonymref2_Nearest.mono_l k
 unfold endonymref2_Nearest.f
 repeat' first | (with_reducible first | apply ih0 | apply endonymref2_Near.mono | apply endonymref2_Of.mono | apply endonymref2_Product.mono | apply endonymref2_Ten.mono | apply endonymref2_Times.mono | apply LeO.refl | apply LeO.none | refine LeO.ite ?_ ?_ | refine LeO.bind ?_ (fun _ => ?_)) | apply ih0 | apply endonymref2_Near.mono | apply endonymref2_Of.mono | apply endonymref2_Product.mono | apply endonymref2_Ten.mono | apply endonymref2_Times.mono | apply LeO.none | refine LeO.ite ?_ ?_ | refine LeO.bind ?_ (fun _ => ?_)
set_option maxHeartbeats 8000000 in
set_option maxRecDepth 100000 in
theorem endonymref2_Nearest.calls (k : Nat) (a0 : ByteArray) (a1 : Int) (r1 : Int) (r2 : Bool) (w : World) (h : endonymref2_Nearest.f k a0 a1 = some (r1, r2)) :
  Calls Tryz.prog 33 #[.string a0, .int .i64 a1] w fun e w' => e = .returned (.tuple #[.int .u64 r1, .bool r2]) ∧ Below w.heap.size w w' := by
 have HB := Aside0.mk (Below.refl w.heap.size w)
 have H : (endonymref2_Nearest.l0 k a0 a1 ([] : List Int) 0) = some (r1, r2) := h
 clear h
 have H' := Aside0.mk H
 clear H
 go_enter Tryz.func33, Tryz.ntmps33
 go_wp2
 go_loopg [6, 7] k (fun kq v6 v7 w' => ∃ (x6_1 : List Int) (x7_1 : Int), v7 = .int .i64 x7_1 ∧ Aside0 (endonymref2_Nearest.l0 kq a0 a1 x6_1 x7_1 = some (r1, r2)) ∧ Aside0 (kq ≤ k) ∧ Aside0 (Kd.R (Kd.int .u32) 83 w' w.heap.size (fun _ => True) v6 x6_1) ∧ Aside0 (Below w.heap.size w w'))
 case atStart => exact ⟨(([] : List Int)), (0), sqE, H', ⟨Nat.le_refl _⟩, ⟨by first | exact Kd.R_nil _ _ _ _ _ | exact Kd.N_nil _ _ _ _ _ | exact Kd.V_nil _ _ _ _ _ | exact Kd.Q_nil _ _ _ _ _ | exact Kd.S_nil _ _ _ _ _⟩, ⟨sqB⟩⟩
 case round =>
  clear H'
  try clear p2
  obtain ⟨x6_1, x7_1, rfl, HA, HK1, HO_6, HB⟩ := hrel
  cases gk with
  | zero => exact absurd HA.out (by simp [endonymref2_Nearest.l0])
  | succ k1 =>
   have H := HA.out
   clear HA
   simp only [endonymref2_Nearest.l0] at H
   by_cases c3 : x7_1 < (a0.size : Int)
   ·rw [if_pos c3] at H
    have c3b0 := decide_eq_true c3
    clear c3
    by_cases c4 : 0 ≤ x7_1
    case neg => rw [if_neg c4] at H; exact absurd H (by simp)
    rw [if_pos c4] at H
    have c4b0 := decide_eq_true c4
    clear c4
    replace H := Option.bind_eq_some_iff.mp H
    obtain ⟨t417, A60, H⟩ := H
    try dsimp only at H
    have A6 := Aside0.mk A60
    clear A60
    have H' := Aside0.mk H
    clear H
    have p5 : 0 ≤ (x7_1 : Int) := sqD
    have q5 : x7_1 < (a0.size : Int) := sqD
    have hx5 := bt_at a0 x7_1
    replace p5 := eq_true p5
    replace q5 := eq_true q5
    obtain ⟨Ao7, co7, eo7⟩ := Kd.R_slice HO_6.out
    subst eo7
    go_wp2_with (first | ((with_reducible refine gate_callee (f := 61) rfl ?_); refine goesL_ (some 20) rfl rfl Tryz.func61 (by kernel_rfl) rfl #[.slice Ao7 x6_1.length co7, .int .u32 10, .int .u32 (((bt a0 x7_1) - 48) % 256)] rfl sqA ?_; (with_reducible refine (endonymref2_Times.calls k1 _ _ x6_1 10 (((bt a0 x7_1) - 48) % 256) t417 _ ?side1 ?side2 A6.out).mono ?_); (case side1 => repeat (first | exact (Kd.R_reads' HO_6.out).2.2 | (with_reducible refine Kd.C_alloc ?_ _) | (with_reducible refine Kd.C_drewN ?_ _) | (with_reducible refine Kd.C_drew ?_))); (case side2 => exact (Kd.R_reads' HO_6.out).2.1); rintro e w8 ⟨v418, rfl, ho0, hb⟩; refine ⟨_, rfl, ?_⟩; have n0_ := Aside0.mk (Kd.R_elder' (sqR HO_6.out) (Kd.R_base ho0) hb); have n1_ := Aside0.mk (Kd.R_lower (Kd.R_new' ho0 (Kd.R_lt (sqR HO_6.out))) (below_size sqB)); have n2_ := Aside0.mk (below_step sqB hb); clear HO_6; clear HB; have HO_6 := n0_; have HO419 := n1_; have HB := n2_; clear n0_ n1_ n2_; (try clear hb); (try clear hb2); (try clear hk); (try clear hi); (try clear ho0)))
    go_roundg k1
    case measure => have := HK1.out; omega
    case rel => exact ⟨(t417), (wrap64 (x7_1 + 1)), sqE, H', ⟨by have := HK1.out; omega⟩, ⟨by (with_reducible repeat (first | apply Kd.R_alloc | apply Kd.R_drewN | apply Kd.R_drew)); exact Kd.R_mono HO419.out (fun _ hk => trivial)⟩, ⟨sqB⟩⟩
   rw [if_neg c3] at H
   have c3b0 := decide_eq_false c3
   clear c3
   by_cases c9 : a1 ≥ 0
   ·rw [if_pos c9] at H
    have c9b0 := decide_eq_true c9
    clear c9
    replace H := Option.bind_eq_some_iff.mp H
    obtain ⟨t420, A100, H⟩ := H
    try dsimp only at H
    have A10 := Aside0.mk A100
    clear A100
    replace H := Option.bind_eq_some_iff.mp H
    obtain ⟨t423, A110, H⟩ := H
    try dsimp only at H
    have A11 := Aside0.mk A110
    clear A110
    replace H := Option.bind_eq_some_iff.mp H
    obtain ⟨t426, A120, H⟩ := H
    try dsimp only at H
    have A12 := Aside0.mk A120
    clear A120
    replace H := Option.bind_eq_some_iff.mp H
    obtain ⟨⟨t429, t430⟩, A130, H⟩ := H
    try dsimp only at H
    have A13 := Aside0.mk A130
    clear A130
    simp only [Option.some.injEq, Prod.mk.injEq] at H
    obtain ⟨rfl, rfl⟩ := H
    go_wp2_with (first | ((with_reducible refine gate_callee (f := 64) rfl ?_); refine goesL_ (some 25) rfl rfl Tryz.func64 (by kernel_rfl) rfl #[.int .i64 a1] rfl sqA ?_; (with_reducible refine (endonymref2_Ten.calls k1 a1 t420 _ A10.out).mono ?_); rintro e w14 ⟨v421, rfl, ho0, hb⟩; refine ⟨_, rfl, ?_⟩; have n0_ := Aside0.mk (Kd.R_elder' (sqR HO_6.out) (Kd.R_base ho0) hb); have n1_ := Aside0.mk (Kd.R_lower (Kd.R_new' ho0 (Kd.R_lt (sqR HO_6.out))) (below_size sqB)); have n2_ := Aside0.mk (below_step sqB hb); clear HO_6; clear HB; have HO_6 := n0_; have HO422 := n1_; have HB := n2_; clear n0_ n1_ n2_; (try clear hb); (try clear hb2); (try clear hk); (try clear hi); (try clear ho0); obtain ⟨Ao15, co15, eo15⟩ := Kd.R_slice HO_6.out; subst eo15; obtain ⟨Ao16, co16, eo16⟩ := Kd.R_slice HO422.out; subst eo16) | ((with_reducible refine gate_callee (f := 63) rfl ?_); refine goesL_ (some 26) rfl rfl Tryz.func63 (by kernel_rfl) rfl #[.slice Ao15 x6_1.length co15, .slice Ao16 t420.length co16] rfl sqA ?_; (with_reducible refine (endonymref2_Product.calls k1 _ _ x6_1 _ _ t420 t423 _ ?side1 ?side2 ?side3 ?side4 A11.out).mono ?_); (case side1 => repeat (first | exact (Kd.R_reads' HO_6.out).2.2 | (with_reducible refine Kd.C_alloc ?_ _) | (with_reducible refine Kd.C_drewN ?_ _) | (with_reducible refine Kd.C_drew ?_))); (case side2 => exact (Kd.R_reads' HO_6.out).2.1); (case side3 => repeat (first | exact (Kd.R_reads' HO422.out).2.2 | (with_reducible refine Kd.C_alloc ?_ _) | (with_reducible refine Kd.C_drewN ?_ _) | (with_reducible refine Kd.C_drew ?_))); (case side4 => exact (Kd.R_reads' HO422.out).2.1); rintro e w17 ⟨v424, rfl, ho0, hb⟩; refine ⟨_, rfl, ?_⟩; have n0_ := Aside0.mk (Kd.R_elder' (sqR HO_6.out) (Kd.R_base ho0) hb); have n1_ := Aside0.mk (Kd.R_elder' (sqR HO422.out) (Kd.R_base ho0) hb); have n2_ := Aside0.mk (Kd.R_lower (Kd.R_new' (Kd.R_new' ho0 (Kd.R_lt (sqR HO_6.out))) (Kd.R_lt (sqR HO422.out))) (below_size sqB)); have n3_ := Aside0.mk (below_step sqB hb); clear HO_6; clear HO422; clear HB; have HO_6 := n0_; have HO422 := n1_; have HO425 := n2_; have HB := n3_; clear n0_ n1_ n2_ n3_; (try clear hb); (try clear hb2); (try clear hk); (try clear hi); (try clear ho0)) | ((with_reducible refine gate_callee (f := 65) rfl ?_); refine goesL_ (some 27) rfl rfl Tryz.func65 (by kernel_rfl) rfl #[.int .u64 1] rfl sqA ?_; (with_reducible refine (endonymref2_Of.calls k1 1 t426 _ A12.out).mono ?_); rintro e w18 ⟨v427, rfl, ho0, hb⟩; refine ⟨_, rfl, ?_⟩; have n0_ := Aside0.mk (Kd.R_elder' (sqR HO_6.out) (Kd.R_base ho0) hb); have n1_ := Aside0.mk (Kd.R_elder' (sqR HO422.out) (Kd.R_base ho0) hb); have n2_ := Aside0.mk (Kd.R_elder' (sqR HO425.out) (Kd.R_base ho0) hb); have n3_ := Aside0.mk (Kd.R_lower (Kd.R_new' (Kd.R_new' (Kd.R_new' ho0 (Kd.R_lt (sqR HO_6.out))) (Kd.R_lt (sqR HO422.out))) (Kd.R_lt (sqR HO425.out))) (below_size sqB)); have n4_ := Aside0.mk (below_step sqB hb); clear HO_6; clear HO422; clear HO425; clear HB; have HO_6 := n0_; have HO422 := n1_; have HO425 := n2_; have HO428 := n3_; have HB := n4_; clear n0_ n1_ n2_ n3_ n4_; (try clear hb); (try clear hb2); (try clear hk); (try clear hi); (try clear ho0); obtain ⟨Ao19, co19, eo19⟩ := Kd.R_slice HO425.out; subst eo19; obtain ⟨Ao20, co20, eo20⟩ := Kd.R_slice HO428.out; subst eo20) | ((with_reducible refine gate_callee (f := 62) rfl ?_); refine goesL_ (some 28) rfl rfl Tryz.func62 (by kernel_rfl) rfl #[.slice Ao19 t423.length co19, .slice Ao20 t426.length co20] rfl sqA ?_; (with_reducible refine (endonymref2_Near.calls k1 _ _ t423 _ _ t426 t429 t430 _ ?side1 ?side2 ?side3 ?side4 A13.out).mono ?_); (case side1 => repeat (first | exact (Kd.R_reads' HO425.out).2.2 | (with_reducible refine Kd.C_alloc ?_ _) | (with_reducible refine Kd.C_drewN ?_ _) | (with_reducible refine Kd.C_drew ?_))); (case side2 => exact (Kd.R_reads' HO425.out).2.1); (case side3 => repeat (first | exact (Kd.R_reads' HO428.out).2.2 | (with_reducible refine Kd.C_alloc ?_ _) | (with_reducible refine Kd.C_drewN ?_ _) | (with_reducible refine Kd.C_drew ?_))); (case side4 => exact (Kd.R_reads' HO428.out).2.1); rintro e w21 ⟨rfl, hb⟩; refine ⟨_, rfl, ?_⟩; have n0_ := Aside0.mk (Kd.R_below (sqR HO_6.out) hb); have n1_ := Aside0.mk (Kd.R_below (sqR HO422.out) hb); have n2_ := Aside0.mk (Kd.R_below (sqR HO425.out) hb); have n3_ := Aside0.mk (Kd.R_below (sqR HO428.out) hb); have n4_ := Aside0.mk (below_step sqB hb); clear HO_6; clear HO422; clear HO425; clear HO428; clear HB; have HO_6 := n0_; have HO422 := n1_; have HO425 := n2_; have HO428 := n3_; have HB := n4_; clear n0_ n1_ n2_ n3_ n4_; (try clear hb); (try clear hb2); (try clear hk); (try clear hi)))
    go_ret2
    exact ⟨sqE', sqB⟩
   rw [if_neg c9] at H
   have c9b0 := decide_eq_false c9
   clear c9
   replace H := Option.bind_eq_some_iff.mp H
   obtain ⟨t431, A220, H⟩ := H
   try dsimp only at H
   have A22 := Aside0.mk A220
   clear A220
   replace H := Option.bind_eq_some_iff.mp H
   obtain ⟨⟨t434, t435⟩, A230, H⟩ := H
   try dsimp only at H
   have A23 := Aside0.mk A230
   clear A230
   simp only [Option.some.injEq, Prod.mk.injEq] at H
   obtain ⟨rfl, rfl⟩ := H
   go_wp2_with (first | ((with_reducible refine gate_callee (f := 64) rfl ?_); refine goesL_ (some 34) rfl rfl Tryz.func64 (by kernel_rfl) rfl #[.int .i64 (wrap64 (-a1))] rfl sqA ?_; (with_reducible refine (endonymref2_Ten.calls k1 (wrap64 (-a1)) t431 _ A22.out).mono ?_); rintro e w24 ⟨v432, rfl, ho0, hb⟩; refine ⟨_, rfl, ?_⟩; have n0_ := Aside0.mk (Kd.R_elder' (sqR HO_6.out) (Kd.R_base ho0) hb); have n1_ := Aside0.mk (Kd.R_lower (Kd.R_new' ho0 (Kd.R_lt (sqR HO_6.out))) (below_size sqB)); have n2_ := Aside0.mk (below_step sqB hb); clear HO_6; clear HB; have HO_6 := n0_; have HO433 := n1_; have HB := n2_; clear n0_ n1_ n2_; (try clear hb); (try clear hb2); (try clear hk); (try clear hi); (try clear ho0); obtain ⟨Ao25, co25, eo25⟩ := Kd.R_slice HO_6.out; subst eo25; obtain ⟨Ao26, co26, eo26⟩ := Kd.R_slice HO433.out; subst eo26) | ((with_reducible refine gate_callee (f := 62) rfl ?_); refine goesL_ (some 35) rfl rfl Tryz.func62 (by kernel_rfl) rfl #[.slice Ao25 x6_1.length co25, .slice Ao26 t431.length co26] rfl sqA ?_; (with_reducible refine (endonymref2_Near.calls k1 _ _ x6_1 _ _ t431 t434 t435 _ ?side1 ?side2 ?side3 ?side4 A23.out).mono ?_); (case side1 => repeat (first | exact (Kd.R_reads' HO_6.out).2.2 | (with_reducible refine Kd.C_alloc ?_ _) | (with_reducible refine Kd.C_drewN ?_ _) | (with_reducible refine Kd.C_drew ?_))); (case side2 => exact (Kd.R_reads' HO_6.out).2.1); (case side3 => repeat (first | exact (Kd.R_reads' HO433.out).2.2 | (with_reducible refine Kd.C_alloc ?_ _) | (with_reducible refine Kd.C_drewN ?_ _) | (with_reducible refine Kd.C_drew ?_))); (case side4 => exact (Kd.R_reads' HO433.out).2.1); rintro e w27 ⟨rfl, hb⟩; refine ⟨_, rfl, ?_⟩; have n0_ := Aside0.mk (Kd.R_below (sqR HO_6.out) hb); have n1_ := Aside0.mk (Kd.R_below (sqR HO433.out) hb); have n2_ := Aside0.mk (below_step sqB hb); clear HO_6; clear HO433; clear HB; have HO_6 := n0_; have HO433 := n1_; have HB := n2_; clear n0_ n1_ n2_; (try clear hb); (try clear hb2); (try clear hk); (try clear hi)))
   go_ret2
   exact ⟨sqE', sqB⟩

/-! ### endonymref2_Parse: function 8 -/
def endonymref2_Parse.f (k : Nat) (a0 : ByteArray) : Option (Int × Int) := if a0.toList = ([105, 110, 102] : List UInt8) then (some (9218868437227405312, 0)) else (if a0.toList = ([45, 105, 110, 102] : List UInt8) then (some (18442240474082181120, 0)) else (if (a0.size : Int) > 64 then (some (0, 20)) else ((endonymref2_Read.f k a0).bind fun bt436 => (if bt436.2.2.2.2 = true then ((endonymref2_Nearest.f k bt436.2.1 (wrap64 (bt436.2.2.2.1 - bt436.2.2.1))).bind fun bt441 => (if bt441.2 = true then (if bt436.1 = true then (some (Go.bits .or .u64 bt441.1 9223372036854775808, 0)) else (some (bt441.1, 0))) else (some (0, 21)))) else (some (0, 20))))))
theorem endonymref2_Parse.mono : ∀ a0 k, LeO (endonymref2_Parse.f k a0) (endonymref2_Parse.f (k + 1) a0) := by
 intro a0 k
 unfold endonymref2_Parse.f
 repeat' first | (with_reducible first | apply endonymref2_Nearest.mono | apply endonymref2_Read.mono | apply LeO.refl | apply LeO.none | refine LeO.ite ?_ ?_ | refine LeO.bind ?_ (fun _ => ?_)) | apply endonymref2_Nearest.mono | apply endonymref2_Read.mono | apply LeO.none | refine LeO.ite ?_ ?_ | refine LeO.bind ?_ (fun _ => ?_)
set_option maxHeartbeats 8000000 in
set_option maxRecDepth 100000 in
theorem endonymref2_Parse.calls (k : Nat) (a0 : ByteArray) (r1 : Int) (r2 : Int) (w : World) (h : endonymref2_Parse.f k a0 = some (r1, r2)) :
  Calls Tryz.prog 8 #[.string a0] w fun e w' => e = .returned (.tuple #[.int .u64 r1, .int .i64 r2]) ∧ Below w.heap.size w w' := by
 have HB := Aside0.mk (Below.refl w.heap.size w)
 have H : (if a0.toList = ([105, 110, 102] : List UInt8) then (some (9218868437227405312, 0)) else (if a0.toList = ([45, 105, 110, 102] : List UInt8) then (some (18442240474082181120, 0)) else (if (a0.size : Int) > 64 then (some (0, 20)) else ((endonymref2_Read.f k a0).bind fun bt436 => (if bt436.2.2.2.2 = true then ((endonymref2_Nearest.f k bt436.2.1 (wrap64 (bt436.2.2.2.1 - bt436.2.2.1))).bind fun bt441 => (if bt441.2 = true then (if bt436.1 = true then (some (Go.bits .or .u64 bt441.1 9223372036854775808, 0)) else (some (bt441.1, 0))) else (some (0, 21)))) else (some (0, 20))))))) = some (r1, r2) := h
 clear h
 by_cases c2 : a0.toList = ([105, 110, 102] : List UInt8)
 ·rw [if_pos c2] at H
  have c2b0 := beq_iff_eq.mpr c2
  have c2b1 := bne_eq_false_iff_eq.mpr c2
  clear c2
  simp only [Option.some.injEq, Prod.mk.injEq] at H
  obtain ⟨rfl, rfl⟩ := H
  go_enter Tryz.func8, Tryz.ntmps8
  go_wp2
  go_ret2
  exact ⟨sqE', sqB⟩
 rw [if_neg c2] at H
 have c2b0 := beq_eq_false_iff_ne.mpr c2
 have c2b1 := bne_iff_ne.mpr c2
 by_cases c3 : a0.toList = ([45, 105, 110, 102] : List UInt8)
 ·rw [if_pos c3] at H
  have c3b0 := beq_iff_eq.mpr c3
  have c3b1 := bne_eq_false_iff_eq.mpr c3
  clear c3
  simp only [Option.some.injEq, Prod.mk.injEq] at H
  obtain ⟨rfl, rfl⟩ := H
  go_enter Tryz.func8, Tryz.ntmps8
  go_wp2
  go_ret2
  exact ⟨sqE', sqB⟩
 rw [if_neg c3] at H
 have c3b0 := beq_eq_false_iff_ne.mpr c3
 have c3b1 := bne_iff_ne.mpr c3
 by_cases c4 : (a0.size : Int) > 64
 ·rw [if_pos c4] at H
  have c4b0 := decide_eq_true c4
  have c4b1 : decide (64 < a0.size) = true := decide_eq_true (by omega)
  clear c4
  simp only [Option.some.injEq, Prod.mk.injEq] at H
  obtain ⟨rfl, rfl⟩ := H
  go_enter Tryz.func8, Tryz.ntmps8
  go_wp2
  go_ret2
  exact ⟨sqE', sqB⟩
 rw [if_neg c4] at H
 have c4b0 := decide_eq_false c4
 have c4b1 : decide (64 < a0.size) = false := decide_eq_false (by omega)
 clear c4
 replace H := Option.bind_eq_some_iff.mp H
 obtain ⟨⟨t436, t437, t438, t439, t440⟩, A50, H⟩ := H
 try dsimp only at H
 have A5 := Aside0.mk A50
 clear A50
 by_cases c6 : t440 = true
 ·subst c6
  have H1 : ((endonymref2_Nearest.f k t437 (wrap64 (t439 - t438))).bind fun bt441 => (if bt441.2 = true then (if t436 = true then (some (Go.bits .or .u64 bt441.1 9223372036854775808, 0)) else (some (bt441.1, 0))) else (some (0, 21)))) = some (r1, r2) := by rw [if_pos rfl] at H; exact H
  clear H
  have H := H1
  clear H1
  replace H := Option.bind_eq_some_iff.mp H
  obtain ⟨⟨t441, t442⟩, A70, H⟩ := H
  try dsimp only at H
  have A7 := Aside0.mk A70
  clear A70
  by_cases c8 : t442 = true
  ·subst c8
   have H1 : (if t436 = true then (some (Go.bits .or .u64 t441 9223372036854775808, 0)) else (some (t441, 0))) = some (r1, r2) := by rw [if_pos rfl] at H; exact H
   clear H
   have H := H1
   clear H1
   by_cases c9 : t436 = true
   ·subst c9
    have H1 : (some (Go.bits .or .u64 t441 9223372036854775808, 0)) = some (r1, r2) := by rw [if_pos rfl] at H; exact H
    clear H
    have H := H1
    clear H1
    simp only [Option.some.injEq, Prod.mk.injEq] at H
    obtain ⟨rfl, rfl⟩ := H
    go_enter Tryz.func8, Tryz.ntmps8
    go_wp2_with (first | ((with_reducible refine gate_callee (f := 32) rfl ?_); refine goesL_ (some 19) rfl rfl Tryz.func32 (by kernel_rfl) rfl #[.string a0] rfl sqA ?_; (with_reducible refine (endonymref2_Read.calls k a0 true t437 t438 t439 true _ A5.out).mono ?_); rintro e w' ⟨rfl, ⟨nd, rfl⟩⟩; refine ⟨_, rfl, ?_⟩) | ((with_reducible refine gate_callee (f := 33) rfl ?_); refine goesL_ (some 32) rfl rfl Tryz.func33 (by kernel_rfl) rfl #[.string t437, .int .i64 (wrap64 (t439 - t438))] rfl sqA ?_; (with_reducible refine (endonymref2_Nearest.calls k t437 (wrap64 (t439 - t438)) t441 true _ A7.out).mono ?_); rintro e w10 ⟨rfl, hb⟩; refine ⟨_, rfl, ?_⟩; have n0_ := Aside0.mk (below_step sqB hb); clear HB; have HB := n0_; clear n0_; (try clear hb); (try clear hb2); (try clear hk); (try clear hi)))
    go_ret2
    exact ⟨sqE', sqB⟩
   replace c9 := Bool.eq_false_iff.mpr c9
   subst c9
   have H1 : (some (t441, 0)) = some (r1, r2) := by rw [if_neg (show ¬ (false = true) by decide)] at H; exact H
   clear H
   have H := H1
   clear H1
   simp only [Option.some.injEq, Prod.mk.injEq] at H
   obtain ⟨rfl, rfl⟩ := H
   go_enter Tryz.func8, Tryz.ntmps8
   go_wp2_with (first | ((with_reducible refine gate_callee (f := 32) rfl ?_); refine goesL_ (some 19) rfl rfl Tryz.func32 (by kernel_rfl) rfl #[.string a0] rfl sqA ?_; (with_reducible refine (endonymref2_Read.calls k a0 false t437 t438 t439 true _ A5.out).mono ?_); rintro e w' ⟨rfl, ⟨nd, rfl⟩⟩; refine ⟨_, rfl, ?_⟩) | ((with_reducible refine gate_callee (f := 33) rfl ?_); refine goesL_ (some 32) rfl rfl Tryz.func33 (by kernel_rfl) rfl #[.string t437, .int .i64 (wrap64 (t439 - t438))] rfl sqA ?_; (with_reducible refine (endonymref2_Nearest.calls k t437 (wrap64 (t439 - t438)) t441 true _ A7.out).mono ?_); rintro e w11 ⟨rfl, hb⟩; refine ⟨_, rfl, ?_⟩; have n0_ := Aside0.mk (below_step sqB hb); clear HB; have HB := n0_; clear n0_; (try clear hb); (try clear hb2); (try clear hk); (try clear hi)))
   go_ret2
   exact ⟨sqE', sqB⟩
  replace c8 := Bool.eq_false_iff.mpr c8
  subst c8
  have H1 : (some (0, 21)) = some (r1, r2) := by rw [if_neg (show ¬ (false = true) by decide)] at H; exact H
  clear H
  have H := H1
  clear H1
  simp only [Option.some.injEq, Prod.mk.injEq] at H
  obtain ⟨rfl, rfl⟩ := H
  go_enter Tryz.func8, Tryz.ntmps8
  go_wp2_with (first | ((with_reducible refine gate_callee (f := 32) rfl ?_); refine goesL_ (some 19) rfl rfl Tryz.func32 (by kernel_rfl) rfl #[.string a0] rfl sqA ?_; (with_reducible refine (endonymref2_Read.calls k a0 t436 t437 t438 t439 true _ A5.out).mono ?_); rintro e w' ⟨rfl, ⟨nd, rfl⟩⟩; refine ⟨_, rfl, ?_⟩) | ((with_reducible refine gate_callee (f := 33) rfl ?_); refine goesL_ (some 32) rfl rfl Tryz.func33 (by kernel_rfl) rfl #[.string t437, .int .i64 (wrap64 (t439 - t438))] rfl sqA ?_; (with_reducible refine (endonymref2_Nearest.calls k t437 (wrap64 (t439 - t438)) t441 false _ A7.out).mono ?_); rintro e w12 ⟨rfl, hb⟩; refine ⟨_, rfl, ?_⟩; have n0_ := Aside0.mk (below_step sqB hb); clear HB; have HB := n0_; clear n0_; (try clear hb); (try clear hb2); (try clear hk); (try clear hi)))
  go_ret2
  exact ⟨sqE', sqB⟩
 replace c6 := Bool.eq_false_iff.mpr c6
 subst c6
 have H1 : (some (0, 20)) = some (r1, r2) := by rw [if_neg (show ¬ (false = true) by decide)] at H; exact H
 clear H
 have H := H1
 clear H1
 simp only [Option.some.injEq, Prod.mk.injEq] at H
 obtain ⟨rfl, rfl⟩ := H
 go_enter Tryz.func8, Tryz.ntmps8
 go_wp2_with (first | ((with_reducible refine gate_callee (f := 32) rfl ?_); refine goesL_ (some 19) rfl rfl Tryz.func32 (by kernel_rfl) rfl #[.string a0] rfl sqA ?_; (with_reducible refine (endonymref2_Read.calls k a0 t436 t437 t438 t439 false _ A5.out).mono ?_); rintro e w' ⟨rfl, ⟨nd, rfl⟩⟩; refine ⟨_, rfl, ?_⟩))
 go_ret2
 exact ⟨sqE', sqB⟩

/-! ### math_Signbit: function 37 -/
def math_Signbit.f (a0 : Nat) : Option (Bool) := some (decide ((wrap64 (((a0 : Nat) : Int))) < 0))
set_option maxHeartbeats 8000000 in
set_option maxRecDepth 100000 in
theorem math_Signbit.calls (a0 : Nat) (r : Bool) (w : World) (h : math_Signbit.f a0 = some r) :
  Calls Tryz.prog 37 #[.float .f64 a0] w fun e w' => e = .returned (.bool r) ∧ Drawn0 w w' := by
 have H : (some (decide ((wrap64 (((a0 : Nat) : Int))) < 0))) = some r := h
 clear h
 have hf2 := fun w_ : World => Rm.x_Float64bits a0 w_
 obtain rfl := Option.some.inj H
 go_enter Tryz.func37, Tryz.ntmps37
 go_wp2
 go_ret
 exact ⟨sqE, sqW⟩

-- NOT PRINTED: function 67 (math_archFloor)

-- NOT PRINTED: function 111 (math_archTrunc)

/-! ### math_Floor: function 38 -/
def math_Floor.f (a0 : Nat) : Option (Nat) := (Rm.archFloorP a0).bind fun t447 => (some t447)
set_option maxHeartbeats 8000000 in
set_option maxRecDepth 100000 in
theorem math_Floor.calls (a0 : Nat) (r : Nat) (w : World) (h : math_Floor.f a0 = some r) :
  Calls Tryz.prog 38 #[.float .f64 a0] w fun e w' => e = .returned (.float .f64 r) ∧ Drawn0 w w' := by
 have H : ((Rm.archFloorP a0).bind fun t447 => (some t447)) = some r := h
 clear h
 replace H := Option.bind_eq_some_iff.mp H
 obtain ⟨t447, A20, H⟩ := H
 try dsimp only at H
 have hf3 := fun w_ : World => Rm.x_archFloor a0 t447 A20 w_
 clear A20
 obtain rfl := Option.some.inj H
 go_enter Tryz.func38, Tryz.ntmps38
 go_wp2
 go_ret
 exact ⟨sqE, sqW⟩

-- NOT PRINTED: function 69 (math_archLog10)

-- NOT PRINTED: function 106 (math_archLog)

-- NOT PRINTED: function 119 (math_archFrexp)

/-! ### math_frexp: function 120 -/
def math_frexp.j0 : Nat → Nat → Bool → Option (Nat × Int)
 | 0, _, _ => none
 | k + 1, x0, x9 => if x9 = true then (some (x0, 0)) else ((math_normalize.f x0).bind fun bt450 => (some (((Go.bits .or .u64 (Go.bits .andNot .u64 ((bt450.1 : Nat) : Int) 9218868437227405312) 4602678819172646912) : Int).toNat, wrap64 (bt450.2 + (wrap64 ((wrap64 ((wrap64 (Go.bits .and .u64 (((bt450.1 : Nat) : Int) / 4503599627370496) 2047)) - 1023)) + 1))))))
def math_frexp.f (k : Nat) (a0 : Nat) : Option (Nat × Int) := if (FloatKind.f64.format.order a0 (0 : Nat) == some .eq) = true then (some (a0, 0)) else ((math_IsInf.f a0 0).bind fun t448 => (if t448 = true then (math_frexp.j0 k a0 true) else ((math_IsNaN.f a0).bind fun t449 => (math_frexp.j0 k a0 t449))))
theorem math_frexp.mono_l : ∀ k, (∀ y0 y1, LeO (math_frexp.j0 k y0 y1) (math_frexp.j0 (k + 1) y0 y1))
 | 0 => fun _ _ r h => by simp [math_frexp.j0] at h
 | k + 1 => by
  have ih0 := math_frexp.mono_l k
  intro y0 y1
  unfold math_frexp.j0
  repeat' first | (with_reducible first | apply ih0 | apply LeO.refl | apply LeO.none | refine LeO.ite ?_ ?_ | refine LeO.bind ?_ (fun _ => ?_)) | apply ih0 | apply LeO.none | refine LeO.ite ?_ ?_ | refine LeO.bind ?_ (fun _ => ?_)
theorem math_frexp.mono : ∀ a0 k, LeO (math_frexp.f k a0) (math_frexp.f (k + 1) a0) := by
 intro a0 k
 have ih0 := math_frexp.mono_l k
 unfold math_frexp.f
 repeat' first | (with_reducible first | apply ih0 | apply LeO.refl | apply LeO.none | refine LeO.ite ?_ ?_ | refine LeO.bind ?_ (fun _ => ?_)) | apply ih0 | apply LeO.none | refine LeO.ite ?_ ?_ | refine LeO.bind ?_ (fun _ => ?_)
set_option maxHeartbeats 8000000 in
set_option maxRecDepth 100000 in
theorem math_frexp.calls (k : Nat) (a0 : Nat) (r1 : Nat) (r2 : Int) (w : World) (h : math_frexp.f k a0 = some (r1, r2)) :
  Calls Tryz.prog 120 #[.float .f64 a0] w fun e w' => e = .returned (.tuple #[.float .f64 r1, .int .i64 r2]) ∧ Drawn0 w w' := by
 have H : (if (FloatKind.f64.format.order a0 (0 : Nat) == some .eq) = true then (some (a0, 0)) else ((math_IsInf.f a0 0).bind fun t448 => (if t448 = true then (math_frexp.j0 k a0 true) else ((math_IsNaN.f a0).bind fun t449 => (math_frexp.j0 k a0 t449))))) = some (r1, r2) := h
 clear h
 by_cases c2 : (FloatKind.f64.format.order a0 (0 : Nat) == some .eq) = true
 ·rw [if_pos c2] at H
  have c2b0 : (FloatKind.f64.format.order a0 (0 : Nat) == some .eq) = true := c2
  (try (have c2b1 : decide (FloatKind.f64.format.order a0 (0 : Nat) = some .eq) = true := by simpa using c2))
  (try (have c2b2 : (FloatKind.f64.format.order a0 (0 : Nat) == some .eq) = true := by simpa using c2))
  clear c2
  simp only [Option.some.injEq, Prod.mk.injEq] at H
  obtain ⟨rfl, rfl⟩ := H
  go_enter Tryz.func120, Tryz.ntmps120
  go_wp2
  go_ret2
  exact ⟨sqE, sqW⟩
 rw [if_neg c2] at H
 have c2b0 : (FloatKind.f64.format.order a0 (0 : Nat) == some .eq) = false := by simpa using c2
 (try (have c2b1 : decide (FloatKind.f64.format.order a0 (0 : Nat) = some .eq) = false := by simpa using c2))
 (try (have c2b2 : (FloatKind.f64.format.order a0 (0 : Nat) == some .eq) = false := by simpa using c2))
 (try (have c2b3 : ¬ (FloatKind.f64.format.order a0 (0 : Nat) = some .eq) := by simpa using c2))
 clear c2
 have HC3 := Aside0.mk H
 clear H
 go_enter Tryz.func120, Tryz.ntmps120
 go_upto_region 3 with (fail)
 go_cut [9] (fun v9 wc => ∃ (kq : Nat) (x9_2 : Bool), v9 = .bool x9_2 ∧ Aside0 (math_frexp.j0 kq a0 x9_2 = some (r1, r2)) ∧ Aside0 (kq ≤ k) ∧ Drawn0 w wc)
 case first =>
  have H := HC3.out
  clear HC3
  replace H := Option.bind_eq_some_iff.mp H
  obtain ⟨t448, A40, H⟩ := H
  try dsimp only at H
  have A4 := Aside0.mk A40
  clear A40
  by_cases c5 : t448 = true
  ·subst c5
   have H1 : (math_frexp.j0 k a0 true) = some (r1, r2) := by rw [if_pos rfl] at H; exact H
   clear H
   have H := H1
   clear H1
   have H' := Aside0.mk H
   clear H
   go_wp2_with (first | ((with_reducible refine gate_callee (f := 30) rfl ?_); refine goesL_ (some 11) rfl rfl Tryz.func30 (by kernel_rfl) rfl #[.float .f64 a0, .int .i64 0] rfl sqA ?_; (with_reducible refine (math_IsInf.calls a0 0 true _ A4.out).mono ?_); rintro e w' ⟨rfl, ⟨nd, rfl⟩⟩; refine ⟨_, rfl, ?_⟩))
   go_meet
   case rel => exact ⟨_, (true), sqE, H', ⟨by first | omega | exact Nat.le_refl _⟩, sqW⟩
  replace c5 := Bool.eq_false_iff.mpr c5
  subst c5
  have H1 : ((math_IsNaN.f a0).bind fun t449 => (math_frexp.j0 k a0 t449)) = some (r1, r2) := by rw [if_neg (show ¬ (false = true) by decide)] at H; exact H
  clear H
  have H := H1
  clear H1
  replace H := Option.bind_eq_some_iff.mp H
  obtain ⟨t449, A60, H⟩ := H
  try dsimp only at H
  have A6 := Aside0.mk A60
  clear A60
  have H' := Aside0.mk H
  clear H
  go_wp2_with (first | ((with_reducible refine gate_callee (f := 30) rfl ?_); refine goesL_ (some 11) rfl rfl Tryz.func30 (by kernel_rfl) rfl #[.float .f64 a0, .int .i64 0] rfl sqA ?_; (with_reducible refine (math_IsInf.calls a0 0 false _ A4.out).mono ?_); rintro e w' ⟨rfl, ⟨nd, rfl⟩⟩; refine ⟨_, rfl, ?_⟩) | (go_at_call 92; (with_reducible refine (math_IsNaN.calls a0 t449 _ A6.out).mono ?_); rintro e w' ⟨rfl, ⟨nd, rfl⟩⟩))
  go_meet
  case rel => exact ⟨_, (t449), sqE, H', ⟨by first | omega | exact Nat.le_refl _⟩, sqW⟩
 case rest =>
  clear HC3
  try clear c1
  try clear c2
  try clear c2b0
  try clear c2b1
  try clear c2b2
  try clear p2
  try clear c3
  try clear c5
  obtain ⟨kq, x9_2, rfl, HA, HJ2, ⟨mc2, rfl⟩⟩ := hcut
  cases kq with
  | zero => exact absurd HA.out (by simp [math_frexp.j0])
  | succ kj2 =>
   have H := HA.out
   clear HA
   simp only [math_frexp.j0] at H
   by_cases c7 : x9_2 = true
   ·subst c7
    have H1 : (some (a0, 0)) = some (r1, r2) := by rw [if_pos rfl] at H; exact H
    clear H
    have H := H1
    clear H1
    simp only [Option.some.injEq, Prod.mk.injEq] at H
    obtain ⟨rfl, rfl⟩ := H
    go_wp2
    go_ret2
    exact ⟨sqE, sqW⟩
   replace c7 := Bool.eq_false_iff.mpr c7
   subst c7
   have H1 : ((math_normalize.f a0).bind fun bt450 => (some (((Go.bits .or .u64 (Go.bits .andNot .u64 ((bt450.1 : Nat) : Int) 9218868437227405312) 4602678819172646912) : Int).toNat, wrap64 (bt450.2 + (wrap64 ((wrap64 ((wrap64 (Go.bits .and .u64 (((bt450.1 : Nat) : Int) / 4503599627370496) 2047)) - 1023)) + 1)))))) = some (r1, r2) := by rw [if_neg (show ¬ (false = true) by decide)] at H; exact H
   clear H
   have H := H1
   clear H1
   replace H := Option.bind_eq_some_iff.mp H
   obtain ⟨⟨t450, t451⟩, A80, H⟩ := H
   try dsimp only at H
   have A8 := Aside0.mk A80
   clear A80
   have hf9 := fun w_ : World => Rm.x_Float64bits t450 w_
   have hf10 := fun w_ : World => Rm.x_Float64frombits (Go.bits .or .u64 (Go.bits .andNot .u64 ((t450 : Nat) : Int) 9218868437227405312) 4602678819172646912) w_
   simp only [Option.some.injEq, Prod.mk.injEq] at H
   obtain ⟨rfl, rfl⟩ := H
   go_wp2_with (first | ((with_reducible refine gate_callee (f := 103) rfl ?_); refine goesL_ (some 19) rfl rfl Tryz.func103 (by kernel_rfl) rfl #[.float .f64 a0] rfl sqA ?_; (with_reducible refine (math_normalize.calls a0 t450 t451 _ A8.out).mono ?_); rintro e w' ⟨rfl, ⟨nd, rfl⟩⟩; refine ⟨_, rfl, ?_⟩))
   go_ret2
   exact ⟨sqE, sqW⟩

/-! ### math_Frexp: function 110 -/
def math_Frexp.f (k : Nat) (a0 : Nat) : Option (Nat × Int) := (math_frexp.f k a0).bind fun bt452 => (some (bt452.1, bt452.2))
theorem math_Frexp.mono : ∀ a0 k, LeO (math_Frexp.f k a0) (math_Frexp.f (k + 1) a0) := by
 intro a0 k
 unfold math_Frexp.f
 repeat' first | (with_reducible first | apply math_frexp.mono | apply LeO.refl | apply LeO.none | refine LeO.ite ?_ ?_ | refine LeO.bind ?_ (fun _ => ?_)) | apply math_frexp.mono | apply LeO.none | refine LeO.ite ?_ ?_ | refine LeO.bind ?_ (fun _ => ?_)
set_option maxHeartbeats 8000000 in
set_option maxRecDepth 100000 in
theorem math_Frexp.calls (k : Nat) (a0 : Nat) (r1 : Nat) (r2 : Int) (w : World) (h : math_Frexp.f k a0 = some (r1, r2)) :
  Calls Tryz.prog 110 #[.float .f64 a0] w fun e w' => e = .returned (.tuple #[.float .f64 r1, .int .i64 r2]) ∧ Drawn0 w w' := by
 have H : ((math_frexp.f k a0).bind fun bt452 => (some (bt452.1, bt452.2))) = some (r1, r2) := h
 clear h
 replace H := Option.bind_eq_some_iff.mp H
 obtain ⟨⟨t452, t453⟩, A20, H⟩ := H
 try dsimp only at H
 have A2 := Aside0.mk A20
 clear A20
 simp only [Option.some.injEq, Prod.mk.injEq] at H
 obtain ⟨rfl, rfl⟩ := H
 go_enter Tryz.func110, Tryz.ntmps110
 go_wp2_with (first | ((with_reducible refine gate_callee (f := 120) rfl ?_); refine goesL_ (some 9) rfl rfl Tryz.func120 (by kernel_rfl) rfl #[.float .f64 a0] rfl sqA ?_; (with_reducible refine (math_frexp.calls k a0 t452 t453 _ A2.out).mono ?_); rintro e w' ⟨rfl, ⟨nd, rfl⟩⟩; refine ⟨_, rfl, ?_⟩))
 go_ret2
 exact ⟨sqE, sqW⟩

end Go.Proofs.YtfmjdoofopamkaaGreatDoor.W
