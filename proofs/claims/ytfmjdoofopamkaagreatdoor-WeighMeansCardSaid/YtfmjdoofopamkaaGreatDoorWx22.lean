-- written by wip/pp.py of this session (the kit's print with patches); checked by Lean alone
import Derived.Test.YtfmjdoofopamkaaGreatDoorWx0
import Derived.Test.YtfmjdoofopamkaaGreatDoorWx6
import Derived.Test.YtfmjdoofopamkaaGreatDoorWx19
import Derived.Test.YtfmjdoofopamkaaGreatDoorWx21
namespace Go.Proofs.YtfmjdoofopamkaaGreatDoor.W
open Go.RowKit Go.Proofs.YtfmjdoofopamkaaGreatDoorW.PrintWords Go.Proofs.YtfmjdoofopamkaaGreatDoorW.PrintLast Go.Proofs.YtfmjdoofopamkaaGreatDoorW.PrintMore
attribute [local go_sem] max2_int min2_int max_two min_two max_three min_three max_four min_four   -- for this text's walks alone
set_option linter.unusedVariables false
set_option linter.unusedSimpArgs false

/-! ### endonymlaw2_told: function 9 -/
def endonymlaw2_told.f (k : Nat)  : Option (Bool) := (weigh_Parse.f k (⟨#[50, 53, 101, 45, 50]⟩ : ByteArray)).bind fun bt658 => ((weigh_Mean.f k (([(4607182418800017408 : Nat), (4611686018427387904 : Nat)] : List Nat))).bind fun bt663 => (if (FloatKind.f64.format.order bt658.1 (4598175219545276416 : Nat) == some .eq) = true then (if bt658.2 = 0 then ((weigh_Print.f k (4636737291354636288 : Nat)).bind fun t665 => (if t665.toList = ([49, 101, 50] : List UInt8) then ((weigh_Order.f (4607182418800017408 : Nat) (4611686018427387904 : Nat)).bind fun t666 => (if t666 = (-1) then ((weigh_Exact.f k (([(4846369599423283200 : Nat), (4607182418800017408 : Nat), (14069741636278059008 : Nat)] : List Nat))).bind fun t670 => (if (FloatKind.f64.format.order t670 (4607182418800017408 : Nat) == some .eq) = true then ((weigh_Sum.f k (([(4607182418800017408 : Nat), (4611686018427387904 : Nat)] : List Nat))).bind fun t674 => (if (FloatKind.f64.format.order t674 (4613937818241073152 : Nat) == some .eq) = true then ((weigh_Pairs.f k (([(4607182418800017408 : Nat), (4611686018427387904 : Nat), (4616189618054758400 : Nat)] : List Nat))).bind fun t678 => (if (FloatKind.f64.format.order t678 (4619567317775286272 : Nat) == some .eq) = true then ((weigh_Narrow.f (4715268810125344768 : Nat)).bind fun t679 => (if (FloatKind.f64.format.order t679 (4715268809856909312 : Nat) == some .eq) = true then (if bt663.2 = true then (some (FloatKind.f64.format.order bt663.1 (4609434218613702656 : Nat) == some .eq)) else (some false)) else (some false))) else (some false))) else (some false))) else (some false))) else (some false))) else (some false))) else (some false)) else (some false)))
theorem endonymlaw2_told.mono : ∀ k, LeO (endonymlaw2_told.f k ) (endonymlaw2_told.f (k + 1) ) := by
 intro  k
 unfold endonymlaw2_told.f
 repeat' first | (with_reducible first | apply weigh_Exact.mono | apply weigh_Mean.mono | apply weigh_Pairs.mono | apply weigh_Parse.mono | apply weigh_Print.mono | apply weigh_Sum.mono | apply LeO.refl | apply LeO.none | refine LeO.ite ?_ ?_ | refine LeO.bind ?_ (fun _ => ?_)) | apply weigh_Exact.mono | apply weigh_Mean.mono | apply weigh_Pairs.mono | apply weigh_Parse.mono | apply weigh_Print.mono | apply weigh_Sum.mono | apply LeO.none | refine LeO.ite ?_ ?_ | refine LeO.bind ?_ (fun _ => ?_)
set_option maxRecDepth 100000 in
theorem endonymlaw2_told.at100 : endonymlaw2_told.f 100 = some true := by decide +kernel
set_option maxHeartbeats 8000000 in
set_option maxRecDepth 100000 in
theorem endonymlaw2_told.calls (k : Nat)  (r : Bool) (w : World) (htab : Aside0 (Rm.Tab w)) (h : endonymlaw2_told.f k  = some r) :
  Calls Tryz.prog 9 #[] w fun e w' => e = .returned (.bool r) ∧ Below w.heap.size w w' := by
 have HB := Aside0.mk (Below.refl w.heap.size w)
 have H : ((weigh_Parse.f k (⟨#[50, 53, 101, 45, 50]⟩ : ByteArray)).bind fun bt658 => ((weigh_Mean.f k (([(4607182418800017408 : Nat), (4611686018427387904 : Nat)] : List Nat))).bind fun bt663 => (if (FloatKind.f64.format.order bt658.1 (4598175219545276416 : Nat) == some .eq) = true then (if bt658.2 = 0 then ((weigh_Print.f k (4636737291354636288 : Nat)).bind fun t665 => (if t665.toList = ([49, 101, 50] : List UInt8) then ((weigh_Order.f (4607182418800017408 : Nat) (4611686018427387904 : Nat)).bind fun t666 => (if t666 = (-1) then ((weigh_Exact.f k (([(4846369599423283200 : Nat), (4607182418800017408 : Nat), (14069741636278059008 : Nat)] : List Nat))).bind fun t670 => (if (FloatKind.f64.format.order t670 (4607182418800017408 : Nat) == some .eq) = true then ((weigh_Sum.f k (([(4607182418800017408 : Nat), (4611686018427387904 : Nat)] : List Nat))).bind fun t674 => (if (FloatKind.f64.format.order t674 (4613937818241073152 : Nat) == some .eq) = true then ((weigh_Pairs.f k (([(4607182418800017408 : Nat), (4611686018427387904 : Nat), (4616189618054758400 : Nat)] : List Nat))).bind fun t678 => (if (FloatKind.f64.format.order t678 (4619567317775286272 : Nat) == some .eq) = true then ((weigh_Narrow.f (4715268810125344768 : Nat)).bind fun t679 => (if (FloatKind.f64.format.order t679 (4715268809856909312 : Nat) == some .eq) = true then (if bt663.2 = true then (some (FloatKind.f64.format.order bt663.1 (4609434218613702656 : Nat) == some .eq)) else (some false)) else (some false))) else (some false))) else (some false))) else (some false))) else (some false))) else (some false))) else (some false)) else (some false)))) = some r := h
 have hr : r = true := Option.some.inj ((at_rounds (g := fun k => endonymlaw2_told.f k) endonymlaw2_told.mono (Nat.le_max_left k 100) h).symm.trans (at_rounds (g := fun k => endonymlaw2_told.f k) endonymlaw2_told.mono (Nat.le_max_right k 100) endonymlaw2_told.at100))
 clear h
 replace H := Option.bind_eq_some_iff.mp H
 obtain ⟨⟨t658, t659⟩, A10, H⟩ := H
 try dsimp only at H
 have A1 := Aside0.mk A10
 clear A10
 obtain ⟨y660, hy660⟩ : ∃ y_ : List Nat, y_ = (([(4607182418800017408 : Nat), (4611686018427387904 : Nat)] : List Nat)) := ⟨_, rfl⟩
 replace H : ((weigh_Mean.f k y660).bind fun bt663 => (if (FloatKind.f64.format.order t658 (4598175219545276416 : Nat) == some .eq) = true then (if t659 = 0 then ((weigh_Print.f k (4636737291354636288 : Nat)).bind fun t665 => (if t665.toList = ([49, 101, 50] : List UInt8) then ((weigh_Order.f (4607182418800017408 : Nat) (4611686018427387904 : Nat)).bind fun t666 => (if t666 = (-1) then ((weigh_Exact.f k (([(4846369599423283200 : Nat), (4607182418800017408 : Nat), (14069741636278059008 : Nat)] : List Nat))).bind fun t670 => (if (FloatKind.f64.format.order t670 (4607182418800017408 : Nat) == some .eq) = true then ((weigh_Sum.f k (([(4607182418800017408 : Nat), (4611686018427387904 : Nat)] : List Nat))).bind fun t674 => (if (FloatKind.f64.format.order t674 (4613937818241073152 : Nat) == some .eq) = true then ((weigh_Pairs.f k (([(4607182418800017408 : Nat), (4611686018427387904 : Nat), (4616189618054758400 : Nat)] : List Nat))).bind fun t678 => (if (FloatKind.f64.format.order t678 (4619567317775286272 : Nat) == some .eq) = true then ((weigh_Narrow.f (4715268810125344768 : Nat)).bind fun t679 => (if (FloatKind.f64.format.order t679 (4715268809856909312 : Nat) == some .eq) = true then (if bt663.2 = true then (some (FloatKind.f64.format.order bt663.1 (4609434218613702656 : Nat) == some .eq)) else (some false)) else (some false))) else (some false))) else (some false))) else (some false))) else (some false))) else (some false))) else (some false)) else (some false))) = some r := by first | (rw [hy660]; with_reducible exact H) | (have H2_ := (Option.bind_some _ _).symm.trans H; rw [hy660]; with_reducible exact H2_) | (have H2_ := (Option.bind_some _ _).symm.trans H; with_reducible exact H2_) | with_reducible exact H | (rw [hy660]; exact H) | exact H
 have Ny660 := Aside0.mk hy660
 clear hy660
 replace H := Option.bind_eq_some_iff.mp H
 obtain ⟨⟨t663, t664⟩, A20, H⟩ := H
 try dsimp only at H
 have A2 := Aside0.mk A20
 clear A20
 by_cases c3 : (FloatKind.f64.format.order t658 (4598175219545276416 : Nat) == some .eq) = true
 case neg => rw [if_neg c3, hr] at H; exact absurd H (by simp)
 rw [if_pos c3] at H
 have c3b0 : (FloatKind.f64.format.order t658 (4598175219545276416 : Nat) == some .eq) = true := c3
 (try (have c3b1 : decide (FloatKind.f64.format.order t658 (4598175219545276416 : Nat) = some .eq) = true := by simpa using c3))
 (try (have c3b2 : (FloatKind.f64.format.order t658 (4598175219545276416 : Nat) == some .eq) = true := by simpa using c3))
 clear c3
 by_cases c4 : t659 = 0
 case neg => rw [if_neg c4, hr] at H; exact absurd H (by simp)
 rw [if_pos c4] at H
 have c4b0 := beq_iff_eq.mpr c4
 have c4b1 := bne_eq_false_iff_eq.mpr c4
 clear c4
 replace H := Option.bind_eq_some_iff.mp H
 obtain ⟨t665, A50, H⟩ := H
 try dsimp only at H
 have A5 := Aside0.mk A50
 clear A50
 by_cases c6 : t665.toList = ([49, 101, 50] : List UInt8)
 case neg => rw [if_neg c6, hr] at H; exact absurd H (by simp)
 rw [if_pos c6] at H
 have c6b0 := beq_iff_eq.mpr c6
 have c6b1 := bne_eq_false_iff_eq.mpr c6
 clear c6
 replace H := Option.bind_eq_some_iff.mp H
 obtain ⟨t666, A70, H⟩ := H
 try dsimp only at H
 have A7 := Aside0.mk A70
 clear A70
 by_cases c8 : t666 = (-1)
 case neg => rw [if_neg c8, hr] at H; exact absurd H (by simp)
 rw [if_pos c8] at H
 have c8b0 := beq_iff_eq.mpr c8
 have c8b1 := bne_eq_false_iff_eq.mpr c8
 clear c8
 obtain ⟨y667, hy667⟩ : ∃ y_ : List Nat, y_ = (([(4846369599423283200 : Nat), (4607182418800017408 : Nat), (14069741636278059008 : Nat)] : List Nat)) := ⟨_, rfl⟩
 replace H : ((weigh_Exact.f k y667).bind fun t670 => (if (FloatKind.f64.format.order t670 (4607182418800017408 : Nat) == some .eq) = true then ((weigh_Sum.f k (([(4607182418800017408 : Nat), (4611686018427387904 : Nat)] : List Nat))).bind fun t674 => (if (FloatKind.f64.format.order t674 (4613937818241073152 : Nat) == some .eq) = true then ((weigh_Pairs.f k (([(4607182418800017408 : Nat), (4611686018427387904 : Nat), (4616189618054758400 : Nat)] : List Nat))).bind fun t678 => (if (FloatKind.f64.format.order t678 (4619567317775286272 : Nat) == some .eq) = true then ((weigh_Narrow.f (4715268810125344768 : Nat)).bind fun t679 => (if (FloatKind.f64.format.order t679 (4715268809856909312 : Nat) == some .eq) = true then (if t664 = true then (some (FloatKind.f64.format.order t663 (4609434218613702656 : Nat) == some .eq)) else (some false)) else (some false))) else (some false))) else (some false))) else (some false))) = some r := by first | (rw [hy667]; with_reducible exact H) | (have H2_ := (Option.bind_some _ _).symm.trans H; rw [hy667]; with_reducible exact H2_) | (have H2_ := (Option.bind_some _ _).symm.trans H; with_reducible exact H2_) | with_reducible exact H | (rw [hy667]; exact H) | exact H
 have Ny667 := Aside0.mk hy667
 clear hy667
 replace H := Option.bind_eq_some_iff.mp H
 obtain ⟨t670, A90, H⟩ := H
 try dsimp only at H
 have A9 := Aside0.mk A90
 clear A90
 by_cases c10 : (FloatKind.f64.format.order t670 (4607182418800017408 : Nat) == some .eq) = true
 case neg => rw [if_neg c10, hr] at H; exact absurd H (by simp)
 rw [if_pos c10] at H
 have c10b0 : (FloatKind.f64.format.order t670 (4607182418800017408 : Nat) == some .eq) = true := c10
 (try (have c10b1 : decide (FloatKind.f64.format.order t670 (4607182418800017408 : Nat) = some .eq) = true := by simpa using c10))
 (try (have c10b2 : (FloatKind.f64.format.order t670 (4607182418800017408 : Nat) == some .eq) = true := by simpa using c10))
 clear c10
 obtain ⟨y671, hy671⟩ : ∃ y_ : List Nat, y_ = (([(4607182418800017408 : Nat), (4611686018427387904 : Nat)] : List Nat)) := ⟨_, rfl⟩
 replace H : ((weigh_Sum.f k y671).bind fun t674 => (if (FloatKind.f64.format.order t674 (4613937818241073152 : Nat) == some .eq) = true then ((weigh_Pairs.f k (([(4607182418800017408 : Nat), (4611686018427387904 : Nat), (4616189618054758400 : Nat)] : List Nat))).bind fun t678 => (if (FloatKind.f64.format.order t678 (4619567317775286272 : Nat) == some .eq) = true then ((weigh_Narrow.f (4715268810125344768 : Nat)).bind fun t679 => (if (FloatKind.f64.format.order t679 (4715268809856909312 : Nat) == some .eq) = true then (if t664 = true then (some (FloatKind.f64.format.order t663 (4609434218613702656 : Nat) == some .eq)) else (some false)) else (some false))) else (some false))) else (some false))) = some r := by first | (rw [hy671]; with_reducible exact H) | (have H2_ := (Option.bind_some _ _).symm.trans H; rw [hy671]; with_reducible exact H2_) | (have H2_ := (Option.bind_some _ _).symm.trans H; with_reducible exact H2_) | with_reducible exact H | (rw [hy671]; exact H) | exact H
 have Ny671 := Aside0.mk hy671
 clear hy671
 replace H := Option.bind_eq_some_iff.mp H
 obtain ⟨t674, A110, H⟩ := H
 try dsimp only at H
 have A11 := Aside0.mk A110
 clear A110
 by_cases c12 : (FloatKind.f64.format.order t674 (4613937818241073152 : Nat) == some .eq) = true
 case neg => rw [if_neg c12, hr] at H; exact absurd H (by simp)
 rw [if_pos c12] at H
 have c12b0 : (FloatKind.f64.format.order t674 (4613937818241073152 : Nat) == some .eq) = true := c12
 (try (have c12b1 : decide (FloatKind.f64.format.order t674 (4613937818241073152 : Nat) = some .eq) = true := by simpa using c12))
 (try (have c12b2 : (FloatKind.f64.format.order t674 (4613937818241073152 : Nat) == some .eq) = true := by simpa using c12))
 clear c12
 obtain ⟨y675, hy675⟩ : ∃ y_ : List Nat, y_ = (([(4607182418800017408 : Nat), (4611686018427387904 : Nat), (4616189618054758400 : Nat)] : List Nat)) := ⟨_, rfl⟩
 replace H : ((weigh_Pairs.f k y675).bind fun t678 => (if (FloatKind.f64.format.order t678 (4619567317775286272 : Nat) == some .eq) = true then ((weigh_Narrow.f (4715268810125344768 : Nat)).bind fun t679 => (if (FloatKind.f64.format.order t679 (4715268809856909312 : Nat) == some .eq) = true then (if t664 = true then (some (FloatKind.f64.format.order t663 (4609434218613702656 : Nat) == some .eq)) else (some false)) else (some false))) else (some false))) = some r := by first | (rw [hy675]; with_reducible exact H) | (have H2_ := (Option.bind_some _ _).symm.trans H; rw [hy675]; with_reducible exact H2_) | (have H2_ := (Option.bind_some _ _).symm.trans H; with_reducible exact H2_) | with_reducible exact H | (rw [hy675]; exact H) | exact H
 have Ny675 := Aside0.mk hy675
 clear hy675
 replace H := Option.bind_eq_some_iff.mp H
 obtain ⟨t678, A130, H⟩ := H
 try dsimp only at H
 have A13 := Aside0.mk A130
 clear A130
 by_cases c14 : (FloatKind.f64.format.order t678 (4619567317775286272 : Nat) == some .eq) = true
 case neg => rw [if_neg c14, hr] at H; exact absurd H (by simp)
 rw [if_pos c14] at H
 have c14b0 : (FloatKind.f64.format.order t678 (4619567317775286272 : Nat) == some .eq) = true := c14
 (try (have c14b1 : decide (FloatKind.f64.format.order t678 (4619567317775286272 : Nat) = some .eq) = true := by simpa using c14))
 (try (have c14b2 : (FloatKind.f64.format.order t678 (4619567317775286272 : Nat) == some .eq) = true := by simpa using c14))
 clear c14
 replace H := Option.bind_eq_some_iff.mp H
 obtain ⟨t679, A150, H⟩ := H
 try dsimp only at H
 have A15 := Aside0.mk A150
 clear A150
 by_cases c16 : (FloatKind.f64.format.order t679 (4715268809856909312 : Nat) == some .eq) = true
 case neg => rw [if_neg c16, hr] at H; exact absurd H (by simp)
 rw [if_pos c16] at H
 have c16b0 : (FloatKind.f64.format.order t679 (4715268809856909312 : Nat) == some .eq) = true := c16
 (try (have c16b1 : decide (FloatKind.f64.format.order t679 (4715268809856909312 : Nat) = some .eq) = true := by simpa using c16))
 (try (have c16b2 : (FloatKind.f64.format.order t679 (4715268809856909312 : Nat) == some .eq) = true := by simpa using c16))
 clear c16
 by_cases c17 : t664 = true
 case neg => rw [if_neg c17, hr] at H; exact absurd H (by simp)
 subst c17
 have H1 : (some (FloatKind.f64.format.order t663 (4609434218613702656 : Nat) == some .eq)) = some r := by rw [if_pos rfl] at H; exact H
 clear H
 have H := H1
 clear H1
 obtain rfl := Option.some.inj H
 go_enter Tryz.func9, Tryz.ntmps9
 go_wp2_with (first | ((with_reducible refine gate_callee (f := 7) rfl ?_); refine goesL_ (some 6) rfl rfl Tryz.func7 (by kernel_rfl) rfl #[.string (⟨#[50, 53, 101, 45, 50]⟩ : ByteArray)] rfl sqA ?_; (with_reducible refine (weigh_Parse.calls k (⟨#[50, 53, 101, 45, 50]⟩ : ByteArray) t658 t659 _ A1.out).mono ?_); rintro e w18 ⟨rfl, hb⟩; refine ⟨_, rfl, ?_⟩; have n0_ := Aside0.mk (below_step sqB hb); clear HB; have HB := n0_; clear n0_; (try clear hb); (try clear hb2); (try clear hk); (try clear hi)) | ((with_reducible refine gate_dst (N := 10) rfl ?_); (try (refine gate_guard (by rfl) ?_; dsimp only)); refine Kd.R_lit Kd.flt _ 22 ?hg (N := 10) ?hd (xs := ([(4607182418800017408 : Nat), (4611686018427387904 : Nat)] : List Nat)) (inner := [.float .f64 (4607182418800017408 : Nat), .float .f64 (4611686018427387904 : Nat)]) (ok := fun _ => True) (okp := fun _ => True) ?hr ?hp (fun _ hk => hk) trivial (Below.refl _ _) (Nat.le_refl _) (by simp) ?_; (case hd => rfl); (case hg => rfl); (case hr => first | (go_simp; done) | (go_simp; rfl)); (case hp => exact (Reps.one (show Kd.M Kd.flt _ _ _ (4607182418800017408 : Nat) [.float .f64 (4607182418800017408 : Nat)] from rfl) (Reps.one (show Kd.M Kd.flt _ _ _ (4611686018427387904 : Nat) [.float .f64 (4611686018427387904 : Nat)] from rfl) (Reps.none _ _)))); intro v661 w19 ho20 hb hg_ hnew_; clear hg_ hnew_; (first | rw [← Ny660.out] at ho20 | (simp only [Int.reduceToNat] at ho20; rw [← Ny660.out] at ho20)); have n0_ := Aside0.mk (Kd.R_lower ho20 (below_size sqB)); have n1_ := Aside0.mk (below_step sqB hb); clear HB; have HO662 := n0_; have HB := n1_; clear n0_ n1_; clear hb ho20; obtain ⟨Ao21, co21, eo21⟩ := Kd.R_slice HO662.out; subst eo21) | ((with_reducible refine gate_callee (f := 22) rfl ?_); refine goesL_ (some 11) rfl rfl Tryz.func22 (by kernel_rfl) rfl #[.slice Ao21 y660.length co21] rfl sqA ?_; (with_reducible refine (weigh_Mean.calls k _ _ y660 t663 true _ ?side1 ?side2 A2.out).mono ?_); (case side1 => repeat (first | exact (Kd.R_reads' HO662.out).2.2 | (with_reducible refine Kd.C_alloc ?_ _) | (with_reducible refine Kd.C_drewN ?_ _) | (with_reducible refine Kd.C_drew ?_))); (case side2 => exact (Kd.R_reads' HO662.out).2.1); rintro e w22 ⟨rfl, hb⟩; refine ⟨_, rfl, ?_⟩; have n0_ := Aside0.mk (Kd.R_below (sqR HO662.out) hb); have n1_ := Aside0.mk (below_step sqB hb); clear HO662; clear HB; have HO662 := n0_; have HB := n1_; clear n0_ n1_; (try clear hb); (try clear hb2); (try clear hk); (try clear hi)) | (go_at_call 11; (with_reducible refine (weigh_Print.calls k (4636737291354636288 : Nat) t665 _ ⟨htab.out.below sqB⟩ A5.out).mono ?_); rintro e w23 ⟨rfl, hb⟩; have n0_ := Aside0.mk (Kd.R_below (sqR HO662.out) hb); have n1_ := Aside0.mk (below_step sqB hb); clear HO662; clear HB; have HO662 := n0_; have HB := n1_; clear n0_ n1_; (try clear hb); (try clear hb2); (try clear hk); (try clear hi)) | (go_at_call 34; (with_reducible refine (weigh_Order.calls (4607182418800017408 : Nat) (4611686018427387904 : Nat) t666 _ A7.out).mono ?_); rintro e w' ⟨rfl, ⟨nd, rfl⟩⟩) | ((with_reducible refine gate_dst (N := 29) rfl ?_); (try (refine gate_guard (by rfl) ?_; dsimp only)); refine Kd.R_lit Kd.flt _ 22 ?hg (N := 29) ?hd (xs := ([(4846369599423283200 : Nat), (4607182418800017408 : Nat), (14069741636278059008 : Nat)] : List Nat)) (inner := [.float .f64 (4846369599423283200 : Nat), .float .f64 (4607182418800017408 : Nat), .float .f64 (14069741636278059008 : Nat)]) (ok := fun _ => True) (okp := fun _ => True) ?hr ?hp (fun _ hk => hk) trivial (Below.refl _ _) (Nat.le_refl _) (by simp) ?_; (case hd => rfl); (case hg => rfl); (case hr => first | (go_simp; done) | (go_simp; rfl)); (case hp => exact (Reps.one (show Kd.M Kd.flt _ _ _ (4846369599423283200 : Nat) [.float .f64 (4846369599423283200 : Nat)] from rfl) (Reps.one (show Kd.M Kd.flt _ _ _ (4607182418800017408 : Nat) [.float .f64 (4607182418800017408 : Nat)] from rfl) (Reps.one (show Kd.M Kd.flt _ _ _ (14069741636278059008 : Nat) [.float .f64 (14069741636278059008 : Nat)] from rfl) (Reps.none _ _))))); intro v668 w24 ho25 hb hg_ hnew_; clear hg_ hnew_; (first | rw [← Ny667.out] at ho25 | (simp only [Int.reduceToNat] at ho25; rw [← Ny667.out] at ho25)); have n0_ := Aside0.mk (Kd.R_elder' (sqR HO662.out) (Kd.R_base ho25) hb); have n1_ := Aside0.mk (Kd.R_lower (Kd.R_new' ho25 (Kd.R_lt (sqR HO662.out))) (below_size sqB)); have n2_ := Aside0.mk (below_step sqB hb); clear HO662; clear HB; have HO662 := n0_; have HO669 := n1_; have HB := n2_; clear n0_ n1_ n2_; clear hb ho25; obtain ⟨Ao26, co26, eo26⟩ := Kd.R_slice HO669.out; subst eo26) | (go_at_call 17; (with_reducible refine (weigh_Exact.calls k _ _ y667 t670 _ ?side1 ?side2 A9.out).mono ?_); (case side1 => repeat (first | exact (Kd.R_reads' HO669.out).2.2 | (with_reducible refine Kd.C_alloc ?_ _) | (with_reducible refine Kd.C_drewN ?_ _) | (with_reducible refine Kd.C_drew ?_))); (case side2 => exact (Kd.R_reads' HO669.out).2.1); rintro e w27 ⟨rfl, hb⟩; have n0_ := Aside0.mk (Kd.R_below (sqR HO662.out) hb); have n1_ := Aside0.mk (Kd.R_below (sqR HO669.out) hb); have n2_ := Aside0.mk (below_step sqB hb); clear HO662; clear HO669; clear HB; have HO662 := n0_; have HO669 := n1_; have HB := n2_; clear n0_ n1_ n2_; (try clear hb); (try clear hb2); (try clear hk); (try clear hi)) | ((with_reducible refine gate_dst (N := 34) rfl ?_); (try (refine gate_guard (by rfl) ?_; dsimp only)); refine Kd.R_lit Kd.flt _ 22 ?hg (N := 34) ?hd (xs := ([(4607182418800017408 : Nat), (4611686018427387904 : Nat)] : List Nat)) (inner := [.float .f64 (4607182418800017408 : Nat), .float .f64 (4611686018427387904 : Nat)]) (ok := fun _ => True) (okp := fun _ => True) ?hr ?hp (fun _ hk => hk) trivial (Below.refl _ _) (Nat.le_refl _) (by simp) ?_; (case hd => rfl); (case hg => rfl); (case hr => first | (go_simp; done) | (go_simp; rfl)); (case hp => exact (Reps.one (show Kd.M Kd.flt _ _ _ (4607182418800017408 : Nat) [.float .f64 (4607182418800017408 : Nat)] from rfl) (Reps.one (show Kd.M Kd.flt _ _ _ (4611686018427387904 : Nat) [.float .f64 (4611686018427387904 : Nat)] from rfl) (Reps.none _ _)))); intro v672 w28 ho29 hb hg_ hnew_; clear hg_ hnew_; (first | rw [← Ny671.out] at ho29 | (simp only [Int.reduceToNat] at ho29; rw [← Ny671.out] at ho29)); have n0_ := Aside0.mk (Kd.R_elder' (sqR HO662.out) (Kd.R_base ho29) hb); have n1_ := Aside0.mk (Kd.R_elder' (sqR HO669.out) (Kd.R_base ho29) hb); have n2_ := Aside0.mk (Kd.R_lower (Kd.R_new' (Kd.R_new' ho29 (Kd.R_lt (sqR HO662.out))) (Kd.R_lt (sqR HO669.out))) (below_size sqB)); have n3_ := Aside0.mk (below_step sqB hb); clear HO662; clear HO669; clear HB; have HO662 := n0_; have HO669 := n1_; have HO673 := n2_; have HB := n3_; clear n0_ n1_ n2_ n3_; clear hb ho29; obtain ⟨Ao30, co30, eo30⟩ := Kd.R_slice HO673.out; subst eo30) | (go_at_call 15; (with_reducible refine (weigh_Sum.calls k _ _ y671 t674 _ ?side1 ?side2 A11.out).mono ?_); (case side1 => repeat (first | exact (Kd.R_reads' HO673.out).2.2 | (with_reducible refine Kd.C_alloc ?_ _) | (with_reducible refine Kd.C_drewN ?_ _) | (with_reducible refine Kd.C_drew ?_))); (case side2 => exact (Kd.R_reads' HO673.out).2.1); rintro e w' ⟨rfl, ⟨nd, rfl⟩⟩) | ((with_reducible refine gate_dst (N := 39) rfl ?_); (try (refine gate_guard (by rfl) ?_; dsimp only)); refine Kd.R_lit Kd.flt _ 22 ?hg (N := 39) ?hd (xs := ([(4607182418800017408 : Nat), (4611686018427387904 : Nat), (4616189618054758400 : Nat)] : List Nat)) (inner := [.float .f64 (4607182418800017408 : Nat), .float .f64 (4611686018427387904 : Nat), .float .f64 (4616189618054758400 : Nat)]) (ok := fun _ => True) (okp := fun _ => True) ?hr ?hp (fun _ hk => hk) trivial (Below.refl _ _) (Nat.le_refl _) (by simp) ?_; (case hd => rfl); (case hg => rfl); (case hr => first | (go_simp; done) | (go_simp; rfl)); (case hp => exact (Reps.one (show Kd.M Kd.flt _ _ _ (4607182418800017408 : Nat) [.float .f64 (4607182418800017408 : Nat)] from rfl) (Reps.one (show Kd.M Kd.flt _ _ _ (4611686018427387904 : Nat) [.float .f64 (4611686018427387904 : Nat)] from rfl) (Reps.one (show Kd.M Kd.flt _ _ _ (4616189618054758400 : Nat) [.float .f64 (4616189618054758400 : Nat)] from rfl) (Reps.none _ _))))); intro v676 w31 ho32 hb hg_ hnew_; clear hg_ hnew_; (first | rw [← Ny675.out] at ho32 | (simp only [Int.reduceToNat] at ho32; rw [← Ny675.out] at ho32)); have n0_ := Aside0.mk (Kd.R_elder' (sqR HO662.out) (Kd.R_base ho32) hb); have n1_ := Aside0.mk (Kd.R_elder' (sqR HO669.out) (Kd.R_base ho32) hb); have n2_ := Aside0.mk (Kd.R_elder' (sqR HO673.out) (Kd.R_base ho32) hb); have n3_ := Aside0.mk (Kd.R_lower (Kd.R_new' (Kd.R_new' (Kd.R_new' ho32 (Kd.R_lt (sqR HO662.out))) (Kd.R_lt (sqR HO669.out))) (Kd.R_lt (sqR HO673.out))) (below_size sqB)); have n4_ := Aside0.mk (below_step sqB hb); clear HO662; clear HO669; clear HO673; clear HB; have HO662 := n0_; have HO669 := n1_; have HO673 := n2_; have HO677 := n3_; have HB := n4_; clear n0_ n1_ n2_ n3_ n4_; clear hb ho32; obtain ⟨Ao33, co33, eo33⟩ := Kd.R_slice HO677.out; subst eo33) | (go_at_call 16; (with_reducible refine (weigh_Pairs.calls k _ _ y675 t678 _ ?side1 ?side2 A13.out).mono ?_); (case side1 => repeat (first | exact (Kd.R_reads' HO677.out).2.2 | (with_reducible refine Kd.C_alloc ?_ _) | (with_reducible refine Kd.C_drewN ?_ _) | (with_reducible refine Kd.C_drew ?_))); (case side2 => exact (Kd.R_reads' HO677.out).2.1); rintro e w34 ⟨rfl, hb⟩; have n0_ := Aside0.mk (Kd.R_below (sqR HO662.out) hb); have n1_ := Aside0.mk (Kd.R_below (sqR HO669.out) hb); have n2_ := Aside0.mk (Kd.R_below (sqR HO673.out) hb); have n3_ := Aside0.mk (Kd.R_below (sqR HO677.out) hb); have n4_ := Aside0.mk (below_step sqB hb); clear HO662; clear HO669; clear HO673; clear HO677; clear HB; have HO662 := n0_; have HO669 := n1_; have HO673 := n2_; have HO677 := n3_; have HB := n4_; clear n0_ n1_ n2_ n3_ n4_; (try clear hb); (try clear hb2); (try clear hk); (try clear hi)) | (go_at_call 35; (with_reducible refine (weigh_Narrow.calls (4715268810125344768 : Nat) t679 _ A15.out).mono ?_); rintro e w' ⟨rfl, ⟨nd, rfl⟩⟩))
 go_ret
 exact ⟨sqE', sqB⟩

end Go.Proofs.YtfmjdoofopamkaaGreatDoor.W
