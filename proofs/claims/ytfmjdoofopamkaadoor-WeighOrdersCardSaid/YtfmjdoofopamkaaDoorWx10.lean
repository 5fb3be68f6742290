-- written by wip/pp.py of this session (the kit's print with patches); checked by Lean alone
import Derived.Test.YtfmjdoofopamkaaDoorWx0
import Derived.Test.YtfmjdoofopamkaaDoorWx1
import Derived.Test.YtfmjdoofopamkaaDoorWx6
import Derived.Test.YtfmjdoofopamkaaDoorWx7
import Derived.Test.YtfmjdoofopamkaaDoorWx9
namespace Go.Proofs.YtfmjdoofopamkaaDoor.W
open Go.RowKit Go.Proofs.YtfmjdoofopamkaaDoorW.PrintWords Go.Proofs.YtfmjdoofopamkaaDoorW.PrintLast Go.Proofs.YtfmjdoofopamkaaDoorW.PrintMore
attribute [local go_sem] max2_int min2_int max_two min_two max_three min_three max_four min_four   -- for this text's walks alone
set_option linter.unusedVariables false
set_option linter.unusedSimpArgs false

/-! ### endonymlaw2_told: function 12 -/
def endonymlaw2_told.f (k : Nat)  : Option (Bool) := (weigh_Parse.f k (⟨#[50, 53, 101, 45, 50]⟩ : ByteArray)).bind fun bt445 => ((weigh_Mean.f k (([(4607182418800017408 : Nat), (4611686018427387904 : Nat)] : List Nat))).bind fun bt450 => (if (FloatKind.f64.format.order bt445.1 (4598175219545276416 : Nat) == some .eq) = true then (if bt445.2 = 0 then ((weigh_Print.f k (4636737291354636288 : Nat)).bind fun t452 => (if t452.toList = ([49, 101, 50] : List UInt8) then ((weigh_Order.f (4607182418800017408 : Nat) (4611686018427387904 : Nat)).bind fun t453 => (if t453 = (-1) then ((weigh_Exact.f k (([(4846369599423283200 : Nat), (4607182418800017408 : Nat), (14069741636278059008 : Nat)] : List Nat))).bind fun t457 => (if (FloatKind.f64.format.order t457 (4607182418800017408 : Nat) == some .eq) = true then ((weigh_Sum.f k (([(4607182418800017408 : Nat), (4611686018427387904 : Nat)] : List Nat))).bind fun t461 => (if (FloatKind.f64.format.order t461 (4613937818241073152 : Nat) == some .eq) = true then ((weigh_Pairs.f k (([(4607182418800017408 : Nat), (4611686018427387904 : Nat), (4616189618054758400 : Nat)] : List Nat))).bind fun t465 => (if (FloatKind.f64.format.order t465 (4619567317775286272 : Nat) == some .eq) = true then ((weigh_Narrow.f (4715268810125344768 : Nat)).bind fun t466 => (if (FloatKind.f64.format.order t466 (4715268809856909312 : Nat) == some .eq) = true then (if bt450.2 = true then (some (FloatKind.f64.format.order bt450.1 (4609434218613702656 : Nat) == some .eq)) else (some false)) else (some false))) else (some false))) else (some false))) else (some false))) else (some false))) else (some false))) else (some false)) else (some false)))
theorem endonymlaw2_told.mono : ∀ k, LeO (endonymlaw2_told.f k ) (endonymlaw2_told.f (k + 1) ) := by
 intro  k
 unfold endonymlaw2_told.f
 repeat' first | (with_reducible first | apply weigh_Exact.mono | apply weigh_Mean.mono | apply weigh_Pairs.mono | apply weigh_Parse.mono | apply weigh_Print.mono | apply weigh_Sum.mono | apply LeO.refl | apply LeO.none | refine LeO.ite ?_ ?_ | refine LeO.bind ?_ (fun _ => ?_)) | apply weigh_Exact.mono | apply weigh_Mean.mono | apply weigh_Pairs.mono | apply weigh_Parse.mono | apply weigh_Print.mono | apply weigh_Sum.mono | apply LeO.none | refine LeO.ite ?_ ?_ | refine LeO.bind ?_ (fun _ => ?_)
set_option maxHeartbeats 8000000 in
set_option maxRecDepth 100000 in
theorem endonymlaw2_told.calls (k : Nat)  (r : Bool) (w : World) (htab : Aside0 (Rm.Tab w)) (h : endonymlaw2_told.f k  = some r) :
  Calls Tryd.prog 12 #[] w fun e w' => e = .returned (.bool r) ∧ Below w.heap.size w w' := by
 have HB := Aside0.mk (Below.refl w.heap.size w)
 have H : ((weigh_Parse.f k (⟨#[50, 53, 101, 45, 50]⟩ : ByteArray)).bind fun bt445 => ((weigh_Mean.f k (([(4607182418800017408 : Nat), (4611686018427387904 : Nat)] : List Nat))).bind fun bt450 => (if (FloatKind.f64.format.order bt445.1 (4598175219545276416 : Nat) == some .eq) = true then (if bt445.2 = 0 then ((weigh_Print.f k (4636737291354636288 : Nat)).bind fun t452 => (if t452.toList = ([49, 101, 50] : List UInt8) then ((weigh_Order.f (4607182418800017408 : Nat) (4611686018427387904 : Nat)).bind fun t453 => (if t453 = (-1) then ((weigh_Exact.f k (([(4846369599423283200 : Nat), (4607182418800017408 : Nat), (14069741636278059008 : Nat)] : List Nat))).bind fun t457 => (if (FloatKind.f64.format.order t457 (4607182418800017408 : Nat) == some .eq) = true then ((weigh_Sum.f k (([(4607182418800017408 : Nat), (4611686018427387904 : Nat)] : List Nat))).bind fun t461 => (if (FloatKind.f64.format.order t461 (4613937818241073152 : Nat) == some .eq) = true then ((weigh_Pairs.f k (([(4607182418800017408 : Nat), (4611686018427387904 : Nat), (4616189618054758400 : Nat)] : List Nat))).bind fun t465 => (if (FloatKind.f64.format.order t465 (4619567317775286272 : Nat) == some .eq) = true then ((weigh_Narrow.f (4715268810125344768 : Nat)).bind fun t466 => (if (FloatKind.f64.format.order t466 (4715268809856909312 : Nat) == some .eq) = true then (if bt450.2 = true then (some (FloatKind.f64.format.order bt450.1 (4609434218613702656 : Nat) == some .eq)) else (some false)) else (some false))) else (some false))) else (some false))) else (some false))) else (some false))) else (some false))) else (some false)) else (some false)))) = some r := h
 clear h
 replace H := Option.bind_eq_some_iff.mp H
 obtain ⟨⟨t445, t446⟩, A10, H⟩ := H
 try dsimp only at H
 have A1 := Aside0.mk A10
 clear A10
 obtain ⟨y447, hy447⟩ : ∃ y_ : List Nat, y_ = (([(4607182418800017408 : Nat), (4611686018427387904 : Nat)] : List Nat)) := ⟨_, rfl⟩
 replace H : ((weigh_Mean.f k y447).bind fun bt450 => (if (FloatKind.f64.format.order t445 (4598175219545276416 : Nat) == some .eq) = true then (if t446 = 0 then ((weigh_Print.f k (4636737291354636288 : Nat)).bind fun t452 => (if t452.toList = ([49, 101, 50] : List UInt8) then ((weigh_Order.f (4607182418800017408 : Nat) (4611686018427387904 : Nat)).bind fun t453 => (if t453 = (-1) then ((weigh_Exact.f k (([(4846369599423283200 : Nat), (4607182418800017408 : Nat), (14069741636278059008 : Nat)] : List Nat))).bind fun t457 => (if (FloatKind.f64.format.order t457 (4607182418800017408 : Nat) == some .eq) = true then ((weigh_Sum.f k (([(4607182418800017408 : Nat), (4611686018427387904 : Nat)] : List Nat))).bind fun t461 => (if (FloatKind.f64.format.order t461 (4613937818241073152 : Nat) == some .eq) = true then ((weigh_Pairs.f k (([(4607182418800017408 : Nat), (4611686018427387904 : Nat), (4616189618054758400 : Nat)] : List Nat))).bind fun t465 => (if (FloatKind.f64.format.order t465 (4619567317775286272 : Nat) == some .eq) = true then ((weigh_Narrow.f (4715268810125344768 : Nat)).bind fun t466 => (if (FloatKind.f64.format.order t466 (4715268809856909312 : Nat) == some .eq) = true then (if bt450.2 = true then (some (FloatKind.f64.format.order bt450.1 (4609434218613702656 : Nat) == some .eq)) else (some false)) else (some false))) else (some false))) else (some false))) else (some false))) else (some false))) else (some false))) else (some false)) else (some false))) = some r := by first | (rw [hy447]; with_reducible exact H) | (have H2_ := (Option.bind_some _ _).symm.trans H; rw [hy447]; with_reducible exact H2_) | (have H2_ := (Option.bind_some _ _).symm.trans H; with_reducible exact H2_) | with_reducible exact H | (rw [hy447]; exact H) | exact H
 have Ny447 := Aside0.mk hy447
 clear hy447
 replace H := Option.bind_eq_some_iff.mp H
 obtain ⟨⟨t450, t451⟩, A20, H⟩ := H
 try dsimp only at H
 have A2 := Aside0.mk A20
 clear A20
 by_cases c3 : (FloatKind.f64.format.order t445 (4598175219545276416 : Nat) == some .eq) = true
 ·
  rw [if_pos c3] at H
  have c3b0 : (FloatKind.f64.format.order t445 (4598175219545276416 : Nat) == some .eq) = true := c3
  (try (have c3b1 : decide (FloatKind.f64.format.order t445 (4598175219545276416 : Nat) = some .eq) = true := by simpa using c3))
  (try (have c3b2 : (FloatKind.f64.format.order t445 (4598175219545276416 : Nat) == some .eq) = true := by simpa using c3))
  clear c3
  by_cases c4 : t446 = 0
  ·
   rw [if_pos c4] at H
   have c4b0 := beq_iff_eq.mpr c4
   have c4b1 := bne_eq_false_iff_eq.mpr c4
   clear c4
   replace H := Option.bind_eq_some_iff.mp H
   obtain ⟨t452, A50, H⟩ := H
   try dsimp only at H
   have A5 := Aside0.mk A50
   clear A50
   by_cases c6 : t452.toList = ([49, 101, 50] : List UInt8)
   ·
    rw [if_pos c6] at H
    have c6b0 := beq_iff_eq.mpr c6
    have c6b1 := bne_eq_false_iff_eq.mpr c6
    clear c6
    replace H := Option.bind_eq_some_iff.mp H
    obtain ⟨t453, A70, H⟩ := H
    try dsimp only at H
    have A7 := Aside0.mk A70
    clear A70
    by_cases c8 : t453 = (-1)
    ·
     rw [if_pos c8] at H
     have c8b0 := beq_iff_eq.mpr c8
     have c8b1 := bne_eq_false_iff_eq.mpr c8
     clear c8
     obtain ⟨y454, hy454⟩ : ∃ y_ : List Nat, y_ = (([(4846369599423283200 : Nat), (4607182418800017408 : Nat), (14069741636278059008 : Nat)] : List Nat)) := ⟨_, rfl⟩
     replace H : ((weigh_Exact.f k y454).bind fun t457 => (if (FloatKind.f64.format.order t457 (4607182418800017408 : Nat) == some .eq) = true then ((weigh_Sum.f k (([(4607182418800017408 : Nat), (4611686018427387904 : Nat)] : List Nat))).bind fun t461 => (if (FloatKind.f64.format.order t461 (4613937818241073152 : Nat) == some .eq) = true then ((weigh_Pairs.f k (([(4607182418800017408 : Nat), (4611686018427387904 : Nat), (4616189618054758400 : Nat)] : List Nat))).bind fun t465 => (if (FloatKind.f64.format.order t465 (4619567317775286272 : Nat) == some .eq) = true then ((weigh_Narrow.f (4715268810125344768 : Nat)).bind fun t466 => (if (FloatKind.f64.format.order t466 (4715268809856909312 : Nat) == some .eq) = true then (if t451 = true then (some (FloatKind.f64.format.order t450 (4609434218613702656 : Nat) == some .eq)) else (some false)) else (some false))) else (some false))) else (some false))) else (some false))) = some r := by first | (rw [hy454]; with_reducible exact H) | (have H2_ := (Option.bind_some _ _).symm.trans H; rw [hy454]; with_reducible exact H2_) | (have H2_ := (Option.bind_some _ _).symm.trans H; with_reducible exact H2_) | with_reducible exact H | (rw [hy454]; exact H) | exact H
     have Ny454 := Aside0.mk hy454
     clear hy454
     replace H := Option.bind_eq_some_iff.mp H
     obtain ⟨t457, A90, H⟩ := H
     try dsimp only at H
     have A9 := Aside0.mk A90
     clear A90
     by_cases c10 : (FloatKind.f64.format.order t457 (4607182418800017408 : Nat) == some .eq) = true
     ·
      rw [if_pos c10] at H
      have c10b0 : (FloatKind.f64.format.order t457 (4607182418800017408 : Nat) == some .eq) = true := c10
      (try (have c10b1 : decide (FloatKind.f64.format.order t457 (4607182418800017408 : Nat) = some .eq) = true := by simpa using c10))
      (try (have c10b2 : (FloatKind.f64.format.order t457 (4607182418800017408 : Nat) == some .eq) = true := by simpa using c10))
      clear c10
      obtain ⟨y458, hy458⟩ : ∃ y_ : List Nat, y_ = (([(4607182418800017408 : Nat), (4611686018427387904 : Nat)] : List Nat)) := ⟨_, rfl⟩
      replace H : ((weigh_Sum.f k y458).bind fun t461 => (if (FloatKind.f64.format.order t461 (4613937818241073152 : Nat) == some .eq) = true then ((weigh_Pairs.f k (([(4607182418800017408 : Nat), (4611686018427387904 : Nat), (4616189618054758400 : Nat)] : List Nat))).bind fun t465 => (if (FloatKind.f64.format.order t465 (4619567317775286272 : Nat) == some .eq) = true then ((weigh_Narrow.f (4715268810125344768 : Nat)).bind fun t466 => (if (FloatKind.f64.format.order t466 (4715268809856909312 : Nat) == some .eq) = true then (if t451 = true then (some (FloatKind.f64.format.order t450 (4609434218613702656 : Nat) == some .eq)) else (some false)) else (some false))) else (some false))) else (some false))) = some r := by first | (rw [hy458]; with_reducible exact H) | (have H2_ := (Option.bind_some _ _).symm.trans H; rw [hy458]; with_reducible exact H2_) | (have H2_ := (Option.bind_some _ _).symm.trans H; with_reducible exact H2_) | with_reducible exact H | (rw [hy458]; exact H) | exact H
      have Ny458 := Aside0.mk hy458
      clear hy458
      replace H := Option.bind_eq_some_iff.mp H
      obtain ⟨t461, A110, H⟩ := H
      try dsimp only at H
      have A11 := Aside0.mk A110
      clear A110
      by_cases c12 : (FloatKind.f64.format.order t461 (4613937818241073152 : Nat) == some .eq) = true
      ·
       rw [if_pos c12] at H
       have c12b0 : (FloatKind.f64.format.order t461 (4613937818241073152 : Nat) == some .eq) = true := c12
       (try (have c12b1 : decide (FloatKind.f64.format.order t461 (4613937818241073152 : Nat) = some .eq) = true := by simpa using c12))
       (try (have c12b2 : (FloatKind.f64.format.order t461 (4613937818241073152 : Nat) == some .eq) = true := by simpa using c12))
       clear c12
       obtain ⟨y462, hy462⟩ : ∃ y_ : List Nat, y_ = (([(4607182418800017408 : Nat), (4611686018427387904 : Nat), (4616189618054758400 : Nat)] : List Nat)) := ⟨_, rfl⟩
       replace H : ((weigh_Pairs.f k y462).bind fun t465 => (if (FloatKind.f64.format.order t465 (4619567317775286272 : Nat) == some .eq) = true then ((weigh_Narrow.f (4715268810125344768 : Nat)).bind fun t466 => (if (FloatKind.f64.format.order t466 (4715268809856909312 : Nat) == some .eq) = true then (if t451 = true then (some (FloatKind.f64.format.order t450 (4609434218613702656 : Nat) == some .eq)) else (some false)) else (some false))) else (some false))) = some r := by first | (rw [hy462]; with_reducible exact H) | (have H2_ := (Option.bind_some _ _).symm.trans H; rw [hy462]; with_reducible exact H2_) | (have H2_ := (Option.bind_some _ _).symm.trans H; with_reducible exact H2_) | with_reducible exact H | (rw [hy462]; exact H) | exact H
       have Ny462 := Aside0.mk hy462
       clear hy462
       replace H := Option.bind_eq_some_iff.mp H
       obtain ⟨t465, A130, H⟩ := H
       try dsimp only at H
       have A13 := Aside0.mk A130
       clear A130
       by_cases c14 : (FloatKind.f64.format.order t465 (4619567317775286272 : Nat) == some .eq) = true
       ·
        rw [if_pos c14] at H
        have c14b0 : (FloatKind.f64.format.order t465 (4619567317775286272 : Nat) == some .eq) = true := c14
        (try (have c14b1 : decide (FloatKind.f64.format.order t465 (4619567317775286272 : Nat) = some .eq) = true := by simpa using c14))
        (try (have c14b2 : (FloatKind.f64.format.order t465 (4619567317775286272 : Nat) == some .eq) = true := by simpa using c14))
        clear c14
        replace H := Option.bind_eq_some_iff.mp H
        obtain ⟨t466, A150, H⟩ := H
        try dsimp only at H
        have A15 := Aside0.mk A150
        clear A150
        by_cases c16 : (FloatKind.f64.format.order t466 (4715268809856909312 : Nat) == some .eq) = true
        ·
         rw [if_pos c16] at H
         have c16b0 : (FloatKind.f64.format.order t466 (4715268809856909312 : Nat) == some .eq) = true := c16
         (try (have c16b1 : decide (FloatKind.f64.format.order t466 (4715268809856909312 : Nat) = some .eq) = true := by simpa using c16))
         (try (have c16b2 : (FloatKind.f64.format.order t466 (4715268809856909312 : Nat) == some .eq) = true := by simpa using c16))
         clear c16
         by_cases c17 : t451 = true
         ·
          subst c17
          have H1 : (some (FloatKind.f64.format.order t450 (4609434218613702656 : Nat) == some .eq)) = some r := by rw [if_pos rfl] at H; exact H
          clear H
          have H := H1
          clear H1
          obtain rfl := Option.some.inj H
          go_enter Tryd.func12, Tryd.ntmps12
          go_wp2_with (first | ((with_reducible refine gate_callee (f := 19) rfl ?_); refine goesL_ (some 6) rfl rfl Tryd.func19 (by kernel_rfl) rfl #[.string (⟨#[50, 53, 101, 45, 50]⟩ : ByteArray)] rfl sqA ?_; (with_reducible refine (weigh_Parse.calls k (⟨#[50, 53, 101, 45, 50]⟩ : ByteArray) t445 t446 _ A1.out).mono ?_); rintro e w18 ⟨rfl, hb⟩; refine ⟨_, rfl, ?_⟩; have n0_ := Aside0.mk (below_step sqB hb); clear HB; have HB := n0_; clear n0_; (try clear hb); (try clear hb2); (try clear hk); (try clear hi)) | ((with_reducible refine gate_dst (N := 10) rfl ?_); (try (refine gate_guard (by rfl) ?_; dsimp only)); refine Kd.R_lit Kd.flt _ 23 ?hg (N := 10) ?hd (xs := ([(4607182418800017408 : Nat), (4611686018427387904 : Nat)] : List Nat)) (inner := [.float .f64 (4607182418800017408 : Nat), .float .f64 (4611686018427387904 : Nat)]) (ok := fun _ => True) (okp := fun _ => True) ?hr ?hp (fun _ hk => hk) trivial (Below.refl _ _) (Nat.le_refl _) (by simp) ?_; (case hd => rfl); (case hg => rfl); (case hr => first | (go_simp; done) | (go_simp; rfl)); (case hp => exact (Reps.one (show Kd.M Kd.flt _ _ _ (4607182418800017408 : Nat) [.float .f64 (4607182418800017408 : Nat)] from rfl) (Reps.one (show Kd.M Kd.flt _ _ _ (4611686018427387904 : Nat) [.float .f64 (4611686018427387904 : Nat)] from rfl) (Reps.none _ _)))); intro v448 w19 ho20 hb hg_ hnew_; clear hg_ hnew_; (first | rw [← Ny447.out] at ho20 | (simp only [Int.reduceToNat] at ho20; rw [← Ny447.out] at ho20)); have n0_ := Aside0.mk (Kd.R_lower ho20 (below_size sqB)); have n1_ := Aside0.mk (below_step sqB hb); clear HB; have HO449 := n0_; have HB := n1_; clear n0_ n1_; clear hb ho20; obtain ⟨Ao21, co21, eo21⟩ := Kd.R_slice HO449.out; subst eo21) | ((with_reducible refine gate_callee (f := 24) rfl ?_); refine goesL_ (some 11) rfl rfl Tryd.func24 (by kernel_rfl) rfl #[.slice Ao21 y447.length co21] rfl sqA ?_; (with_reducible refine (weigh_Mean.calls k _ _ y447 t450 true _ ?side1 ?side2 A2.out).mono ?_); (case side1 => repeat (first | exact (Kd.R_reads' HO449.out).2.2 | (with_reducible refine Kd.C_alloc ?_ _) | (with_reducible refine Kd.C_drewN ?_ _) | (with_reducible refine Kd.C_drew ?_))); (case side2 => exact (Kd.R_reads' HO449.out).2.1); rintro e w22 ⟨rfl, hb⟩; refine ⟨_, rfl, ?_⟩; have n0_ := Aside0.mk (Kd.R_below (sqR HO449.out) hb); have n1_ := Aside0.mk (below_step sqB hb); clear HO449; clear HB; have HO449 := n0_; have HB := n1_; clear n0_ n1_; (try clear hb); (try clear hb2); (try clear hk); (try clear hi)) | (go_at_call 18; (with_reducible refine (weigh_Print.calls k (4636737291354636288 : Nat) t452 _ ⟨htab.out.below sqB⟩ A5.out).mono ?_); rintro e w23 ⟨rfl, hb⟩; have n0_ := Aside0.mk (Kd.R_below (sqR HO449.out) hb); have n1_ := Aside0.mk (below_step sqB hb); clear HO449; clear HB; have HO449 := n0_; have HB := n1_; clear n0_ n1_; (try clear hb); (try clear hb2); (try clear hk); (try clear hi)) | (go_at_call 15; (with_reducible refine (weigh_Order.calls (4607182418800017408 : Nat) (4611686018427387904 : Nat) t453 _ A7.out).mono ?_); rintro e w' ⟨rfl, ⟨nd, rfl⟩⟩) | ((with_reducible refine gate_dst (N := 29) rfl ?_); (try (refine gate_guard (by rfl) ?_; dsimp only)); refine Kd.R_lit Kd.flt _ 23 ?hg (N := 29) ?hd (xs := ([(4846369599423283200 : Nat), (4607182418800017408 : Nat), (14069741636278059008 : Nat)] : List Nat)) (inner := [.float .f64 (4846369599423283200 : Nat), .float .f64 (4607182418800017408 : Nat), .float .f64 (14069741636278059008 : Nat)]) (ok := fun _ => True) (okp := fun _ => True) ?hr ?hp (fun _ hk => hk) trivial (Below.refl _ _) (Nat.le_refl _) (by simp) ?_; (case hd => rfl); (case hg => rfl); (case hr => first | (go_simp; done) | (go_simp; rfl)); (case hp => exact (Reps.one (show Kd.M Kd.flt _ _ _ (4846369599423283200 : Nat) [.float .f64 (4846369599423283200 : Nat)] from rfl) (Reps.one (show Kd.M Kd.flt _ _ _ (4607182418800017408 : Nat) [.float .f64 (4607182418800017408 : Nat)] from rfl) (Reps.one (show Kd.M Kd.flt _ _ _ (14069741636278059008 : Nat) [.float .f64 (14069741636278059008 : Nat)] from rfl) (Reps.none _ _))))); intro v455 w24 ho25 hb hg_ hnew_; clear hg_ hnew_; (first | rw [← Ny454.out] at ho25 | (simp only [Int.reduceToNat] at ho25; rw [← Ny454.out] at ho25)); have n0_ := Aside0.mk (Kd.R_elder' (sqR HO449.out) (Kd.R_base ho25) hb); have n1_ := Aside0.mk (Kd.R_lower (Kd.R_new' ho25 (Kd.R_lt (sqR HO449.out))) (below_size sqB)); have n2_ := Aside0.mk (below_step sqB hb); clear HO449; clear HB; have HO449 := n0_; have HO456 := n1_; have HB := n2_; clear n0_ n1_ n2_; clear hb ho25; obtain ⟨Ao26, co26, eo26⟩ := Kd.R_slice HO456.out; subst eo26) | (go_at_call 23; (with_reducible refine (weigh_Exact.calls k _ _ y454 t457 _ ?side1 ?side2 A9.out).mono ?_); (case side1 => repeat (first | exact (Kd.R_reads' HO456.out).2.2 | (with_reducible refine Kd.C_alloc ?_ _) | (with_reducible refine Kd.C_drewN ?_ _) | (with_reducible refine Kd.C_drew ?_))); (case side2 => exact (Kd.R_reads' HO456.out).2.1); rintro e w27 ⟨rfl, hb⟩; have n0_ := Aside0.mk (Kd.R_below (sqR HO449.out) hb); have n1_ := Aside0.mk (Kd.R_below (sqR HO456.out) hb); have n2_ := Aside0.mk (below_step sqB hb); clear HO449; clear HO456; clear HB; have HO449 := n0_; have HO456 := n1_; have HB := n2_; clear n0_ n1_ n2_; (try clear hb); (try clear hb2); (try clear hk); (try clear hi)) | ((with_reducible refine gate_dst (N := 34) rfl ?_); (try (refine gate_guard (by rfl) ?_; dsimp only)); refine Kd.R_lit Kd.flt _ 23 ?hg (N := 34) ?hd (xs := ([(4607182418800017408 : Nat), (4611686018427387904 : Nat)] : List Nat)) (inner := [.float .f64 (4607182418800017408 : Nat), .float .f64 (4611686018427387904 : Nat)]) (ok := fun _ => True) (okp := fun _ => True) ?hr ?hp (fun _ hk => hk) trivial (Below.refl _ _) (Nat.le_refl _) (by simp) ?_; (case hd => rfl); (case hg => rfl); (case hr => first | (go_simp; done) | (go_simp; rfl)); (case hp => exact (Reps.one (show Kd.M Kd.flt _ _ _ (4607182418800017408 : Nat) [.float .f64 (4607182418800017408 : Nat)] from rfl) (Reps.one (show Kd.M Kd.flt _ _ _ (4611686018427387904 : Nat) [.float .f64 (4611686018427387904 : Nat)] from rfl) (Reps.none _ _)))); intro v459 w28 ho29 hb hg_ hnew_; clear hg_ hnew_; (first | rw [← Ny458.out] at ho29 | (simp only [Int.reduceToNat] at ho29; rw [← Ny458.out] at ho29)); have n0_ := Aside0.mk (Kd.R_elder' (sqR HO449.out) (Kd.R_base ho29) hb); have n1_ := Aside0.mk (Kd.R_elder' (sqR HO456.out) (Kd.R_base ho29) hb); have n2_ := Aside0.mk (Kd.R_lower (Kd.R_new' (Kd.R_new' ho29 (Kd.R_lt (sqR HO449.out))) (Kd.R_lt (sqR HO456.out))) (below_size sqB)); have n3_ := Aside0.mk (below_step sqB hb); clear HO449; clear HO456; clear HB; have HO449 := n0_; have HO456 := n1_; have HO460 := n2_; have HB := n3_; clear n0_ n1_ n2_ n3_; clear hb ho29; obtain ⟨Ao30, co30, eo30⟩ := Kd.R_slice HO460.out; subst eo30) | (go_at_call 26; (with_reducible refine (weigh_Sum.calls k _ _ y458 t461 _ ?side1 ?side2 A11.out).mono ?_); (case side1 => repeat (first | exact (Kd.R_reads' HO460.out).2.2 | (with_reducible refine Kd.C_alloc ?_ _) | (with_reducible refine Kd.C_drewN ?_ _) | (with_reducible refine Kd.C_drew ?_))); (case side2 => exact (Kd.R_reads' HO460.out).2.1); rintro e w' ⟨rfl, ⟨nd, rfl⟩⟩) | ((with_reducible refine gate_dst (N := 39) rfl ?_); (try (refine gate_guard (by rfl) ?_; dsimp only)); refine Kd.R_lit Kd.flt _ 23 ?hg (N := 39) ?hd (xs := ([(4607182418800017408 : Nat), (4611686018427387904 : Nat), (4616189618054758400 : Nat)] : List Nat)) (inner := [.float .f64 (4607182418800017408 : Nat), .float .f64 (4611686018427387904 : Nat), .float .f64 (4616189618054758400 : Nat)]) (ok := fun _ => True) (okp := fun _ => True) ?hr ?hp (fun _ hk => hk) trivial (Below.refl _ _) (Nat.le_refl _) (by simp) ?_; (case hd => rfl); (case hg => rfl); (case hr => first | (go_simp; done) | (go_simp; rfl)); (case hp => exact (Reps.one (show Kd.M Kd.flt _ _ _ (4607182418800017408 : Nat) [.float .f64 (4607182418800017408 : Nat)] from rfl) (Reps.one (show Kd.M Kd.flt _ _ _ (4611686018427387904 : Nat) [.float .f64 (4611686018427387904 : Nat)] from rfl) (Reps.one (show Kd.M Kd.flt _ _ _ (4616189618054758400 : Nat) [.float .f64 (4616189618054758400 : Nat)] from rfl) (Reps.none _ _))))); intro v463 w31 ho32 hb hg_ hnew_; clear hg_ hnew_; (first | rw [← Ny462.out] at ho32 | (simp only [Int.reduceToNat] at ho32; rw [← Ny462.out] at ho32)); have n0_ := Aside0.mk (Kd.R_elder' (sqR HO449.out) (Kd.R_base ho32) hb); have n1_ := Aside0.mk (Kd.R_elder' (sqR HO456.out) (Kd.R_base ho32) hb); have n2_ := Aside0.mk (Kd.R_elder' (sqR HO460.out) (Kd.R_base ho32) hb); have n3_ := Aside0.mk (Kd.R_lower (Kd.R_new' (Kd.R_new' (Kd.R_new' ho32 (Kd.R_lt (sqR HO449.out))) (Kd.R_lt (sqR HO456.out))) (Kd.R_lt (sqR HO460.out))) (below_size sqB)); have n4_ := Aside0.mk (below_step sqB hb); clear HO449; clear HO456; clear HO460; clear HB; have HO449 := n0_; have HO456 := n1_; have HO460 := n2_; have HO464 := n3_; have HB := n4_; clear n0_ n1_ n2_ n3_ n4_; clear hb ho32; obtain ⟨Ao33, co33, eo33⟩ := Kd.R_slice HO464.out; subst eo33) | (go_at_call 27; (with_reducible refine (weigh_Pairs.calls k _ _ y462 t465 _ ?side1 ?side2 A13.out).mono ?_); (case side1 => repeat (first | exact (Kd.R_reads' HO464.out).2.2 | (with_reducible refine Kd.C_alloc ?_ _) | (with_reducible refine Kd.C_drewN ?_ _) | (with_reducible refine Kd.C_drew ?_))); (case side2 => exact (Kd.R_reads' HO464.out).2.1); rintro e w34 ⟨rfl, hb⟩; have n0_ := Aside0.mk (Kd.R_below (sqR HO449.out) hb); have n1_ := Aside0.mk (Kd.R_below (sqR HO456.out) hb); have n2_ := Aside0.mk (Kd.R_below (sqR HO460.out) hb); have n3_ := Aside0.mk (Kd.R_below (sqR HO464.out) hb); have n4_ := Aside0.mk (below_step sqB hb); clear HO449; clear HO456; clear HO460; clear HO464; clear HB; have HO449 := n0_; have HO456 := n1_; have HO460 := n2_; have HO464 := n3_; have HB := n4_; clear n0_ n1_ n2_ n3_ n4_; (try clear hb); (try clear hb2); (try clear hk); (try clear hi)) | (go_at_call 10; (with_reducible refine (weigh_Narrow.calls (4715268810125344768 : Nat) t466 _ A15.out).mono ?_); rintro e w' ⟨rfl, ⟨nd, rfl⟩⟩))
          go_ret
          exact ⟨sqE', sqB⟩
         ·
          replace c17 := Bool.eq_false_iff.mpr c17
          subst c17
          have H1 : (some false) = some r := by rw [if_neg (show ¬ (false = true) by decide)] at H; exact H
          clear H
          have H := H1
          clear H1
          obtain rfl := Option.some.inj H
          go_enter Tryd.func12, Tryd.ntmps12
          go_wp2_with (first | ((with_reducible refine gate_callee (f := 19) rfl ?_); refine goesL_ (some 6) rfl rfl Tryd.func19 (by kernel_rfl) rfl #[.string (⟨#[50, 53, 101, 45, 50]⟩ : ByteArray)] rfl sqA ?_; (with_reducible refine (weigh_Parse.calls k (⟨#[50, 53, 101, 45, 50]⟩ : ByteArray) t445 t446 _ A1.out).mono ?_); rintro e w35 ⟨rfl, hb⟩; refine ⟨_, rfl, ?_⟩; have n0_ := Aside0.mk (below_step sqB hb); clear HB; have HB := n0_; clear n0_; (try clear hb); (try clear hb2); (try clear hk); (try clear hi)) | ((with_reducible refine gate_dst (N := 10) rfl ?_); (try (refine gate_guard (by rfl) ?_; dsimp only)); refine Kd.R_lit Kd.flt _ 23 ?hg (N := 10) ?hd (xs := ([(4607182418800017408 : Nat), (4611686018427387904 : Nat)] : List Nat)) (inner := [.float .f64 (4607182418800017408 : Nat), .float .f64 (4611686018427387904 : Nat)]) (ok := fun _ => True) (okp := fun _ => True) ?hr ?hp (fun _ hk => hk) trivial (Below.refl _ _) (Nat.le_refl _) (by simp) ?_; (case hd => rfl); (case hg => rfl); (case hr => first | (go_simp; done) | (go_simp; rfl)); (case hp => exact (Reps.one (show Kd.M Kd.flt _ _ _ (4607182418800017408 : Nat) [.float .f64 (4607182418800017408 : Nat)] from rfl) (Reps.one (show Kd.M Kd.flt _ _ _ (4611686018427387904 : Nat) [.float .f64 (4611686018427387904 : Nat)] from rfl) (Reps.none _ _)))); intro v448 w36 ho37 hb hg_ hnew_; clear hg_ hnew_; (first | rw [← Ny447.out] at ho37 | (simp only [Int.reduceToNat] at ho37; rw [← Ny447.out] at ho37)); have n0_ := Aside0.mk (Kd.R_lower ho37 (below_size sqB)); have n1_ := Aside0.mk (below_step sqB hb); clear HB; have HO449 := n0_; have HB := n1_; clear n0_ n1_; clear hb ho37; obtain ⟨Ao38, co38, eo38⟩ := Kd.R_slice HO449.out; subst eo38) | ((with_reducible refine gate_callee (f := 24) rfl ?_); refine goesL_ (some 11) rfl rfl Tryd.func24 (by kernel_rfl) rfl #[.slice Ao38 y447.length co38] rfl sqA ?_; (with_reducible refine (weigh_Mean.calls k _ _ y447 t450 false _ ?side1 ?side2 A2.out).mono ?_); (case side1 => repeat (first | exact (Kd.R_reads' HO449.out).2.2 | (with_reducible refine Kd.C_alloc ?_ _) | (with_reducible refine Kd.C_drewN ?_ _) | (with_reducible refine Kd.C_drew ?_))); (case side2 => exact (Kd.R_reads' HO449.out).2.1); rintro e w39 ⟨rfl, hb⟩; refine ⟨_, rfl, ?_⟩; have n0_ := Aside0.mk (Kd.R_below (sqR HO449.out) hb); have n1_ := Aside0.mk (below_step sqB hb); clear HO449; clear HB; have HO449 := n0_; have HB := n1_; clear n0_ n1_; (try clear hb); (try clear hb2); (try clear hk); (try clear hi)) | (go_at_call 18; (with_reducible refine (weigh_Print.calls k (4636737291354636288 : Nat) t452 _ ⟨htab.out.below sqB⟩ A5.out).mono ?_); rintro e w40 ⟨rfl, hb⟩; have n0_ := Aside0.mk (Kd.R_below (sqR HO449.out) hb); have n1_ := Aside0.mk (below_step sqB hb); clear HO449; clear HB; have HO449 := n0_; have HB := n1_; clear n0_ n1_; (try clear hb); (try clear hb2); (try clear hk); (try clear hi)) | (go_at_call 15; (with_reducible refine (weigh_Order.calls (4607182418800017408 : Nat) (4611686018427387904 : Nat) t453 _ A7.out).mono ?_); rintro e w' ⟨rfl, ⟨nd, rfl⟩⟩) | ((with_reducible refine gate_dst (N := 29) rfl ?_); (try (refine gate_guard (by rfl) ?_; dsimp only)); refine Kd.R_lit Kd.flt _ 23 ?hg (N := 29) ?hd (xs := ([(4846369599423283200 : Nat), (4607182418800017408 : Nat), (14069741636278059008 : Nat)] : List Nat)) (inner := [.float .f64 (4846369599423283200 : Nat), .float .f64 (4607182418800017408 : Nat), .float .f64 (14069741636278059008 : Nat)]) (ok := fun _ => True) (okp := fun _ => True) ?hr ?hp (fun _ hk => hk) trivial (Below.refl _ _) (Nat.le_refl _) (by simp) ?_; (case hd => rfl); (case hg => rfl); (case hr => first | (go_simp; done) | (go_simp; rfl)); (case hp => exact (Reps.one (show Kd.M Kd.flt _ _ _ (4846369599423283200 : Nat) [.float .f64 (4846369599423283200 : Nat)] from rfl) (Reps.one (show Kd.M Kd.flt _ _ _ (4607182418800017408 : Nat) [.float .f64 (4607182418800017408 : Nat)] from rfl) (Reps.one (show Kd.M Kd.flt _ _ _ (14069741636278059008 : Nat) [.float .f64 (14069741636278059008 : Nat)] from rfl) (Reps.none _ _))))); intro v455 w41 ho42 hb hg_ hnew_; clear hg_ hnew_; (first | rw [← Ny454.out] at ho42 | (simp only [Int.reduceToNat] at ho42; rw [← Ny454.out] at ho42)); have n0_ := Aside0.mk (Kd.R_elder' (sqR HO449.out) (Kd.R_base ho42) hb); have n1_ := Aside0.mk (Kd.R_lower (Kd.R_new' ho42 (Kd.R_lt (sqR HO449.out))) (below_size sqB)); have n2_ := Aside0.mk (below_step sqB hb); clear HO449; clear HB; have HO449 := n0_; have HO456 := n1_; have HB := n2_; clear n0_ n1_ n2_; clear hb ho42; obtain ⟨Ao43, co43, eo43⟩ := Kd.R_slice HO456.out; subst eo43) | (go_at_call 23; (with_reducible refine (weigh_Exact.calls k _ _ y454 t457 _ ?side1 ?side2 A9.out).mono ?_); (case side1 => repeat (first | exact (Kd.R_reads' HO456.out).2.2 | (with_reducible refine Kd.C_alloc ?_ _) | (with_reducible refine Kd.C_drewN ?_ _) | (with_reducible refine Kd.C_drew ?_))); (case side2 => exact (Kd.R_reads' HO456.out).2.1); rintro e w44 ⟨rfl, hb⟩; have n0_ := Aside0.mk (Kd.R_below (sqR HO449.out) hb); have n1_ := Aside0.mk (Kd.R_below (sqR HO456.out) hb); have n2_ := Aside0.mk (below_step sqB hb); clear HO449; clear HO456; clear HB; have HO449 := n0_; have HO456 := n1_; have HB := n2_; clear n0_ n1_ n2_; (try clear hb); (try clear hb2); (try clear hk); (try clear hi)) | ((with_reducible refine gate_dst (N := 34) rfl ?_); (try (refine gate_guard (by rfl) ?_; dsimp only)); refine Kd.R_lit Kd.flt _ 23 ?hg (N := 34) ?hd (xs := ([(4607182418800017408 : Nat), (4611686018427387904 : Nat)] : List Nat)) (inner := [.float .f64 (4607182418800017408 : Nat), .float .f64 (4611686018427387904 : Nat)]) (ok := fun _ => True) (okp := fun _ => True) ?hr ?hp (fun _ hk => hk) trivial (Below.refl _ _) (Nat.le_refl _) (by simp) ?_; (case hd => rfl); (case hg => rfl); (case hr => first | (go_simp; done) | (go_simp; rfl)); (case hp => exact (Reps.one (show Kd.M Kd.flt _ _ _ (4607182418800017408 : Nat) [.float .f64 (4607182418800017408 : Nat)] from rfl) (Reps.one (show Kd.M Kd.flt _ _ _ (4611686018427387904 : Nat) [.float .f64 (4611686018427387904 : Nat)] from rfl) (Reps.none _ _)))); intro v459 w45 ho46 hb hg_ hnew_; clear hg_ hnew_; (first | rw [← Ny458.out] at ho46 | (simp only [Int.reduceToNat] at ho46; rw [← Ny458.out] at ho46)); have n0_ := Aside0.mk (Kd.R_elder' (sqR HO449.out) (Kd.R_base ho46) hb); have n1_ := Aside0.mk (Kd.R_elder' (sqR HO456.out) (Kd.R_base ho46) hb); have n2_ := Aside0.mk (Kd.R_lower (Kd.R_new' (Kd.R_new' ho46 (Kd.R_lt (sqR HO449.out))) (Kd.R_lt (sqR HO456.out))) (below_size sqB)); have n3_ := Aside0.mk (below_step sqB hb); clear HO449; clear HO456; clear HB; have HO449 := n0_; have HO456 := n1_; have HO460 := n2_; have HB := n3_; clear n0_ n1_ n2_ n3_; clear hb ho46; obtain ⟨Ao47, co47, eo47⟩ := Kd.R_slice HO460.out; subst eo47) | (go_at_call 26; (with_reducible refine (weigh_Sum.calls k _ _ y458 t461 _ ?side1 ?side2 A11.out).mono ?_); (case side1 => repeat (first | exact (Kd.R_reads' HO460.out).2.2 | (with_reducible refine Kd.C_alloc ?_ _) | (with_reducible refine Kd.C_drewN ?_ _) | (with_reducible refine Kd.C_drew ?_))); (case side2 => exact (Kd.R_reads' HO460.out).2.1); rintro e w' ⟨rfl, ⟨nd, rfl⟩⟩) | ((with_reducible refine gate_dst (N := 39) rfl ?_); (try (refine gate_guard (by rfl) ?_; dsimp only)); refine Kd.R_lit Kd.flt _ 23 ?hg (N := 39) ?hd (xs := ([(4607182418800017408 : Nat), (4611686018427387904 : Nat), (4616189618054758400 : Nat)] : List Nat)) (inner := [.float .f64 (4607182418800017408 : Nat), .float .f64 (4611686018427387904 : Nat), .float .f64 (4616189618054758400 : Nat)]) (ok := fun _ => True) (okp := fun _ => True) ?hr ?hp (fun _ hk => hk) trivial (Below.refl _ _) (Nat.le_refl _) (by simp) ?_; (case hd => rfl); (case hg => rfl); (case hr => first | (go_simp; done) | (go_simp; rfl)); (case hp => exact (Reps.one (show Kd.M Kd.flt _ _ _ (4607182418800017408 : Nat) [.float .f64 (4607182418800017408 : Nat)] from rfl) (Reps.one (show Kd.M Kd.flt _ _ _ (4611686018427387904 : Nat) [.float .f64 (4611686018427387904 : Nat)] from rfl) (Reps.one (show Kd.M Kd.flt _ _ _ (4616189618054758400 : Nat) [.float .f64 (4616189618054758400 : Nat)] from rfl) (Reps.none _ _))))); intro v463 w48 ho49 hb hg_ hnew_; clear hg_ hnew_; (first | rw [← Ny462.out] at ho49 | (simp only [Int.reduceToNat] at ho49; rw [← Ny462.out] at ho49)); have n0_ := Aside0.mk (Kd.R_elder' (sqR HO449.out) (Kd.R_base ho49) hb); have n1_ := Aside0.mk (Kd.R_elder' (sqR HO456.out) (Kd.R_base ho49) hb); have n2_ := Aside0.mk (Kd.R_elder' (sqR HO460.out) (Kd.R_base ho49) hb); have n3_ := Aside0.mk (Kd.R_lower (Kd.R_new' (Kd.R_new' (Kd.R_new' ho49 (Kd.R_lt (sqR HO449.out))) (Kd.R_lt (sqR HO456.out))) (Kd.R_lt (sqR HO460.out))) (below_size sqB)); have n4_ := Aside0.mk (below_step sqB hb); clear HO449; clear HO456; clear HO460; clear HB; have HO449 := n0_; have HO456 := n1_; have HO460 := n2_; have HO464 := n3_; have HB := n4_; clear n0_ n1_ n2_ n3_ n4_; clear hb ho49; obtain ⟨Ao50, co50, eo50⟩ := Kd.R_slice HO464.out; subst eo50) | (go_at_call 27; (with_reducible refine (weigh_Pairs.calls k _ _ y462 t465 _ ?side1 ?side2 A13.out).mono ?_); (case side1 => repeat (first | exact (Kd.R_reads' HO464.out).2.2 | (with_reducible refine Kd.C_alloc ?_ _) | (with_reducible refine Kd.C_drewN ?_ _) | (with_reducible refine Kd.C_drew ?_))); (case side2 => exact (Kd.R_reads' HO464.out).2.1); rintro e w51 ⟨rfl, hb⟩; have n0_ := Aside0.mk (Kd.R_below (sqR HO449.out) hb); have n1_ := Aside0.mk (Kd.R_below (sqR HO456.out) hb); have n2_ := Aside0.mk (Kd.R_below (sqR HO460.out) hb); have n3_ := Aside0.mk (Kd.R_below (sqR HO464.out) hb); have n4_ := Aside0.mk (below_step sqB hb); clear HO449; clear HO456; clear HO460; clear HO464; clear HB; have HO449 := n0_; have HO456 := n1_; have HO460 := n2_; have HO464 := n3_; have HB := n4_; clear n0_ n1_ n2_ n3_ n4_; (try clear hb); (try clear hb2); (try clear hk); (try clear hi)) | (go_at_call 10; (with_reducible refine (weigh_Narrow.calls (4715268810125344768 : Nat) t466 _ A15.out).mono ?_); rintro e w' ⟨rfl, ⟨nd, rfl⟩⟩))
          go_ret
          exact ⟨sqE', sqB⟩
        ·
         rw [if_neg c16] at H
         have c16b0 : (FloatKind.f64.format.order t466 (4715268809856909312 : Nat) == some .eq) = false := by simpa using c16
         (try (have c16b1 : decide (FloatKind.f64.format.order t466 (4715268809856909312 : Nat) = some .eq) = false := by simpa using c16))
         (try (have c16b2 : (FloatKind.f64.format.order t466 (4715268809856909312 : Nat) == some .eq) = false := by simpa using c16))
         (try (have c16b3 : ¬ (FloatKind.f64.format.order t466 (4715268809856909312 : Nat) = some .eq) := by simpa using c16))
         clear c16
         obtain rfl := Option.some.inj H
         go_enter Tryd.func12, Tryd.ntmps12
         go_wp2_with (first | ((with_reducible refine gate_callee (f := 19) rfl ?_); refine goesL_ (some 6) rfl rfl Tryd.func19 (by kernel_rfl) rfl #[.string (⟨#[50, 53, 101, 45, 50]⟩ : ByteArray)] rfl sqA ?_; (with_reducible refine (weigh_Parse.calls k (⟨#[50, 53, 101, 45, 50]⟩ : ByteArray) t445 t446 _ A1.out).mono ?_); rintro e w52 ⟨rfl, hb⟩; refine ⟨_, rfl, ?_⟩; have n0_ := Aside0.mk (below_step sqB hb); clear HB; have HB := n0_; clear n0_; (try clear hb); (try clear hb2); (try clear hk); (try clear hi)) | ((with_reducible refine gate_dst (N := 10) rfl ?_); (try (refine gate_guard (by rfl) ?_; dsimp only)); refine Kd.R_lit Kd.flt _ 23 ?hg (N := 10) ?hd (xs := ([(4607182418800017408 : Nat), (4611686018427387904 : Nat)] : List Nat)) (inner := [.float .f64 (4607182418800017408 : Nat), .float .f64 (4611686018427387904 : Nat)]) (ok := fun _ => True) (okp := fun _ => True) ?hr ?hp (fun _ hk => hk) trivial (Below.refl _ _) (Nat.le_refl _) (by simp) ?_; (case hd => rfl); (case hg => rfl); (case hr => first | (go_simp; done) | (go_simp; rfl)); (case hp => exact (Reps.one (show Kd.M Kd.flt _ _ _ (4607182418800017408 : Nat) [.float .f64 (4607182418800017408 : Nat)] from rfl) (Reps.one (show Kd.M Kd.flt _ _ _ (4611686018427387904 : Nat) [.float .f64 (4611686018427387904 : Nat)] from rfl) (Reps.none _ _)))); intro v448 w53 ho54 hb hg_ hnew_; clear hg_ hnew_; (first | rw [← Ny447.out] at ho54 | (simp only [Int.reduceToNat] at ho54; rw [← Ny447.out] at ho54)); have n0_ := Aside0.mk (Kd.R_lower ho54 (below_size sqB)); have n1_ := Aside0.mk (below_step sqB hb); clear HB; have HO449 := n0_; have HB := n1_; clear n0_ n1_; clear hb ho54; obtain ⟨Ao55, co55, eo55⟩ := Kd.R_slice HO449.out; subst eo55) | ((with_reducible refine gate_callee (f := 24) rfl ?_); refine goesL_ (some 11) rfl rfl Tryd.func24 (by kernel_rfl) rfl #[.slice Ao55 y447.length co55] rfl sqA ?_; (with_reducible refine (weigh_Mean.calls k _ _ y447 t450 t451 _ ?side1 ?side2 A2.out).mono ?_); (case side1 => repeat (first | exact (Kd.R_reads' HO449.out).2.2 | (with_reducible refine Kd.C_alloc ?_ _) | (with_reducible refine Kd.C_drewN ?_ _) | (with_reducible refine Kd.C_drew ?_))); (case side2 => exact (Kd.R_reads' HO449.out).2.1); rintro e w56 ⟨rfl, hb⟩; refine ⟨_, rfl, ?_⟩; have n0_ := Aside0.mk (Kd.R_below (sqR HO449.out) hb); have n1_ := Aside0.mk (below_step sqB hb); clear HO449; clear HB; have HO449 := n0_; have HB := n1_; clear n0_ n1_; (try clear hb); (try clear hb2); (try clear hk); (try clear hi)) | (go_at_call 18; (with_reducible refine (weigh_Print.calls k (4636737291354636288 : Nat) t452 _ ⟨htab.out.below sqB⟩ A5.out).mono ?_); rintro e w57 ⟨rfl, hb⟩; have n0_ := Aside0.mk (Kd.R_below (sqR HO449.out) hb); have n1_ := Aside0.mk (below_step sqB hb); clear HO449; clear HB; have HO449 := n0_; have HB := n1_; clear n0_ n1_; (try clear hb); (try clear hb2); (try clear hk); (try clear hi)) | (go_at_call 15; (with_reducible refine (weigh_Order.calls (4607182418800017408 : Nat) (4611686018427387904 : Nat) t453 _ A7.out).mono ?_); rintro e w' ⟨rfl, ⟨nd, rfl⟩⟩) | ((with_reducible refine gate_dst (N := 29) rfl ?_); (try (refine gate_guard (by rfl) ?_; dsimp only)); refine Kd.R_lit Kd.flt _ 23 ?hg (N := 29) ?hd (xs := ([(4846369599423283200 : Nat), (4607182418800017408 : Nat), (14069741636278059008 : Nat)] : List Nat)) (inner := [.float .f64 (4846369599423283200 : Nat), .float .f64 (4607182418800017408 : Nat), .float .f64 (14069741636278059008 : Nat)]) (ok := fun _ => True) (okp := fun _ => True) ?hr ?hp (fun _ hk => hk) trivial (Below.refl _ _) (Nat.le_refl _) (by simp) ?_; (case hd => rfl); (case hg => rfl); (case hr => first | (go_simp; done) | (go_simp; rfl)); (case hp => exact (Reps.one (show Kd.M Kd.flt _ _ _ (4846369599423283200 : Nat) [.float .f64 (4846369599423283200 : Nat)] from rfl) (Reps.one (show Kd.M Kd.flt _ _ _ (4607182418800017408 : Nat) [.float .f64 (4607182418800017408 : Nat)] from rfl) (Reps.one (show Kd.M Kd.flt _ _ _ (14069741636278059008 : Nat) [.float .f64 (14069741636278059008 : Nat)] from rfl) (Reps.none _ _))))); intro v455 w58 ho59 hb hg_ hnew_; clear hg_ hnew_; (first | rw [← Ny454.out] at ho59 | (simp only [Int.reduceToNat] at ho59; rw [← Ny454.out] at ho59)); have n0_ := Aside0.mk (Kd.R_elder' (sqR HO449.out) (Kd.R_base ho59) hb); have n1_ := Aside0.mk (Kd.R_lower (Kd.R_new' ho59 (Kd.R_lt (sqR HO449.out))) (below_size sqB)); have n2_ := Aside0.mk (below_step sqB hb); clear HO449; clear HB; have HO449 := n0_; have HO456 := n1_; have HB := n2_; clear n0_ n1_ n2_; clear hb ho59; obtain ⟨Ao60, co60, eo60⟩ := Kd.R_slice HO456.out; subst eo60) | (go_at_call 23; (with_reducible refine (weigh_Exact.calls k _ _ y454 t457 _ ?side1 ?side2 A9.out).mono ?_); (case side1 => repeat (first | exact (Kd.R_reads' HO456.out).2.2 | (with_reducible refine Kd.C_alloc ?_ _) | (with_reducible refine Kd.C_drewN ?_ _) | (with_reducible refine Kd.C_drew ?_))); (case side2 => exact (Kd.R_reads' HO456.out).2.1); rintro e w61 ⟨rfl, hb⟩; have n0_ := Aside0.mk (Kd.R_below (sqR HO449.out) hb); have n1_ := Aside0.mk (Kd.R_below (sqR HO456.out) hb); have n2_ := Aside0.mk (below_step sqB hb); clear HO449; clear HO456; clear HB; have HO449 := n0_; have HO456 := n1_; have HB := n2_; clear n0_ n1_ n2_; (try clear hb); (try clear hb2); (try clear hk); (try clear hi)) | ((with_reducible refine gate_dst (N := 34) rfl ?_); (try (refine gate_guard (by rfl) ?_; dsimp only)); refine Kd.R_lit Kd.flt _ 23 ?hg (N := 34) ?hd (xs := ([(4607182418800017408 : Nat), (4611686018427387904 : Nat)] : List Nat)) (inner := [.float .f64 (4607182418800017408 : Nat), .float .f64 (4611686018427387904 : Nat)]) (ok := fun _ => True) (okp := fun _ => True) ?hr ?hp (fun _ hk => hk) trivial (Below.refl _ _) (Nat.le_refl _) (by simp) ?_; (case hd => rfl); (case hg => rfl); (case hr => first | (go_simp; done) | (go_simp; rfl)); (case hp => exact (Reps.one (show Kd.M Kd.flt _ _ _ (4607182418800017408 : Nat) [.float .f64 (4607182418800017408 : Nat)] from rfl) (Reps.one (show Kd.M Kd.flt _ _ _ (4611686018427387904 : Nat) [.float .f64 (4611686018427387904 : Nat)] from rfl) (Reps.none _ _)))); intro v459 w62 ho63 hb hg_ hnew_; clear hg_ hnew_; (first | rw [← Ny458.out] at ho63 | (simp only [Int.reduceToNat] at ho63; rw [← Ny458.out] at ho63)); have n0_ := Aside0.mk (Kd.R_elder' (sqR HO449.out) (Kd.R_base ho63) hb); have n1_ := Aside0.mk (Kd.R_elder' (sqR HO456.out) (Kd.R_base ho63) hb); have n2_ := Aside0.mk (Kd.R_lower (Kd.R_new' (Kd.R_new' ho63 (Kd.R_lt (sqR HO449.out))) (Kd.R_lt (sqR HO456.out))) (below_size sqB)); have n3_ := Aside0.mk (below_step sqB hb); clear HO449; clear HO456; clear HB; have HO449 := n0_; have HO456 := n1_; have HO460 := n2_; have HB := n3_; clear n0_ n1_ n2_ n3_; clear hb ho63; obtain ⟨Ao64, co64, eo64⟩ := Kd.R_slice HO460.out; subst eo64) | (go_at_call 26; (with_reducible refine (weigh_Sum.calls k _ _ y458 t461 _ ?side1 ?side2 A11.out).mono ?_); (case side1 => repeat (first | exact (Kd.R_reads' HO460.out).2.2 | (with_reducible refine Kd.C_alloc ?_ _) | (with_reducible refine Kd.C_drewN ?_ _) | (with_reducible refine Kd.C_drew ?_))); (case side2 => exact (Kd.R_reads' HO460.out).2.1); rintro e w' ⟨rfl, ⟨nd, rfl⟩⟩) | ((with_reducible refine gate_dst (N := 39) rfl ?_); (try (refine gate_guard (by rfl) ?_; dsimp only)); refine Kd.R_lit Kd.flt _ 23 ?hg (N := 39) ?hd (xs := ([(4607182418800017408 : Nat), (4611686018427387904 : Nat), (4616189618054758400 : Nat)] : List Nat)) (inner := [.float .f64 (4607182418800017408 : Nat), .float .f64 (4611686018427387904 : Nat), .float .f64 (4616189618054758400 : Nat)]) (ok := fun _ => True) (okp := fun _ => True) ?hr ?hp (fun _ hk => hk) trivial (Below.refl _ _) (Nat.le_refl _) (by simp) ?_; (case hd => rfl); (case hg => rfl); (case hr => first | (go_simp; done) | (go_simp; rfl)); (case hp => exact (Reps.one (show Kd.M Kd.flt _ _ _ (4607182418800017408 : Nat) [.float .f64 (4607182418800017408 : Nat)] from rfl) (Reps.one (show Kd.M Kd.flt _ _ _ (4611686018427387904 : Nat) [.float .f64 (4611686018427387904 : Nat)] from rfl) (Reps.one (show Kd.M Kd.flt _ _ _ (4616189618054758400 : Nat) [.float .f64 (4616189618054758400 : Nat)] from rfl) (Reps.none _ _))))); intro v463 w65 ho66 hb hg_ hnew_; clear hg_ hnew_; (first | rw [← Ny462.out] at ho66 | (simp only [Int.reduceToNat] at ho66; rw [← Ny462.out] at ho66)); have n0_ := Aside0.mk (Kd.R_elder' (sqR HO449.out) (Kd.R_base ho66) hb); have n1_ := Aside0.mk (Kd.R_elder' (sqR HO456.out) (Kd.R_base ho66) hb); have n2_ := Aside0.mk (Kd.R_elder' (sqR HO460.out) (Kd.R_base ho66) hb); have n3_ := Aside0.mk (Kd.R_lower (Kd.R_new' (Kd.R_new' (Kd.R_new' ho66 (Kd.R_lt (sqR HO449.out))) (Kd.R_lt (sqR HO456.out))) (Kd.R_lt (sqR HO460.out))) (below_size sqB)); have n4_ := Aside0.mk (below_step sqB hb); clear HO449; clear HO456; clear HO460; clear HB; have HO449 := n0_; have HO456 := n1_; have HO460 := n2_; have HO464 := n3_; have HB := n4_; clear n0_ n1_ n2_ n3_ n4_; clear hb ho66; obtain ⟨Ao67, co67, eo67⟩ := Kd.R_slice HO464.out; subst eo67) | (go_at_call 27; (with_reducible refine (weigh_Pairs.calls k _ _ y462 t465 _ ?side1 ?side2 A13.out).mono ?_); (case side1 => repeat (first | exact (Kd.R_reads' HO464.out).2.2 | (with_reducible refine Kd.C_alloc ?_ _) | (with_reducible refine Kd.C_drewN ?_ _) | (with_reducible refine Kd.C_drew ?_))); (case side2 => exact (Kd.R_reads' HO464.out).2.1); rintro e w68 ⟨rfl, hb⟩; have n0_ := Aside0.mk (Kd.R_below (sqR HO449.out) hb); have n1_ := Aside0.mk (Kd.R_below (sqR HO456.out) hb); have n2_ := Aside0.mk (Kd.R_below (sqR HO460.out) hb); have n3_ := Aside0.mk (Kd.R_below (sqR HO464.out) hb); have n4_ := Aside0.mk (below_step sqB hb); clear HO449; clear HO456; clear HO460; clear HO464; clear HB; have HO449 := n0_; have HO456 := n1_; have HO460 := n2_; have HO464 := n3_; have HB := n4_; clear n0_ n1_ n2_ n3_ n4_; (try clear hb); (try clear hb2); (try clear hk); (try clear hi)) | (go_at_call 10; (with_reducible refine (weigh_Narrow.calls (4715268810125344768 : Nat) t466 _ A15.out).mono ?_); rintro e w' ⟨rfl, ⟨nd, rfl⟩⟩))
         go_ret
         exact ⟨sqE', sqB⟩
       ·
        rw [if_neg c14] at H
        have c14b0 : (FloatKind.f64.format.order t465 (4619567317775286272 : Nat) == some .eq) = false := by simpa using c14
        (try (have c14b1 : decide (FloatKind.f64.format.order t465 (4619567317775286272 : Nat) = some .eq) = false := by simpa using c14))
        (try (have c14b2 : (FloatKind.f64.format.order t465 (4619567317775286272 : Nat) == some .eq) = false := by simpa using c14))
        (try (have c14b3 : ¬ (FloatKind.f64.format.order t465 (4619567317775286272 : Nat) = some .eq) := by simpa using c14))
        clear c14
        obtain rfl := Option.some.inj H
        go_enter Tryd.func12, Tryd.ntmps12
        go_wp2_with (first | ((with_reducible refine gate_callee (f := 19) rfl ?_); refine goesL_ (some 6) rfl rfl Tryd.func19 (by kernel_rfl) rfl #[.string (⟨#[50, 53, 101, 45, 50]⟩ : ByteArray)] rfl sqA ?_; (with_reducible refine (weigh_Parse.calls k (⟨#[50, 53, 101, 45, 50]⟩ : ByteArray) t445 t446 _ A1.out).mono ?_); rintro e w69 ⟨rfl, hb⟩; refine ⟨_, rfl, ?_⟩; have n0_ := Aside0.mk (below_step sqB hb); clear HB; have HB := n0_; clear n0_; (try clear hb); (try clear hb2); (try clear hk); (try clear hi)) | ((with_reducible refine gate_dst (N := 10) rfl ?_); (try (refine gate_guard (by rfl) ?_; dsimp only)); refine Kd.R_lit Kd.flt _ 23 ?hg (N := 10) ?hd (xs := ([(4607182418800017408 : Nat), (4611686018427387904 : Nat)] : List Nat)) (inner := [.float .f64 (4607182418800017408 : Nat), .float .f64 (4611686018427387904 : Nat)]) (ok := fun _ => True) (okp := fun _ => True) ?hr ?hp (fun _ hk => hk) trivial (Below.refl _ _) (Nat.le_refl _) (by simp) ?_; (case hd => rfl); (case hg => rfl); (case hr => first | (go_simp; done) | (go_simp; rfl)); (case hp => exact (Reps.one (show Kd.M Kd.flt _ _ _ (4607182418800017408 : Nat) [.float .f64 (4607182418800017408 : Nat)] from rfl) (Reps.one (show Kd.M Kd.flt _ _ _ (4611686018427387904 : Nat) [.float .f64 (4611686018427387904 : Nat)] from rfl) (Reps.none _ _)))); intro v448 w70 ho71 hb hg_ hnew_; clear hg_ hnew_; (first | rw [← Ny447.out] at ho71 | (simp only [Int.reduceToNat] at ho71; rw [← Ny447.out] at ho71)); have n0_ := Aside0.mk (Kd.R_lower ho71 (below_size sqB)); have n1_ := Aside0.mk (below_step sqB hb); clear HB; have HO449 := n0_; have HB := n1_; clear n0_ n1_; clear hb ho71; obtain ⟨Ao72, co72, eo72⟩ := Kd.R_slice HO449.out; subst eo72) | ((with_reducible refine gate_callee (f := 24) rfl ?_); refine goesL_ (some 11) rfl rfl Tryd.func24 (by kernel_rfl) rfl #[.slice Ao72 y447.length co72] rfl sqA ?_; (with_reducible refine (weigh_Mean.calls k _ _ y447 t450 t451 _ ?side1 ?side2 A2.out).mono ?_); (case side1 => repeat (first | exact (Kd.R_reads' HO449.out).2.2 | (with_reducible refine Kd.C_alloc ?_ _) | (with_reducible refine Kd.C_drewN ?_ _) | (with_reducible refine Kd.C_drew ?_))); (case side2 => exact (Kd.R_reads' HO449.out).2.1); rintro e w73 ⟨rfl, hb⟩; refine ⟨_, rfl, ?_⟩; have n0_ := Aside0.mk (Kd.R_below (sqR HO449.out) hb); have n1_ := Aside0.mk (below_step sqB hb); clear HO449; clear HB; have HO449 := n0_; have HB := n1_; clear n0_ n1_; (try clear hb); (try clear hb2); (try clear hk); (try clear hi)) | (go_at_call 18; (with_reducible refine (weigh_Print.calls k (4636737291354636288 : Nat) t452 _ ⟨htab.out.below sqB⟩ A5.out).mono ?_); rintro e w74 ⟨rfl, hb⟩; have n0_ := Aside0.mk (Kd.R_below (sqR HO449.out) hb); have n1_ := Aside0.mk (below_step sqB hb); clear HO449; clear HB; have HO449 := n0_; have HB := n1_; clear n0_ n1_; (try clear hb); (try clear hb2); (try clear hk); (try clear hi)) | (go_at_call 15; (with_reducible refine (weigh_Order.calls (4607182418800017408 : Nat) (4611686018427387904 : Nat) t453 _ A7.out).mono ?_); rintro e w' ⟨rfl, ⟨nd, rfl⟩⟩) | ((with_reducible refine gate_dst (N := 29) rfl ?_); (try (refine gate_guard (by rfl) ?_; dsimp only)); refine Kd.R_lit Kd.flt _ 23 ?hg (N := 29) ?hd (xs := ([(4846369599423283200 : Nat), (4607182418800017408 : Nat), (14069741636278059008 : Nat)] : List Nat)) (inner := [.float .f64 (4846369599423283200 : Nat), .float .f64 (4607182418800017408 : Nat), .float .f64 (14069741636278059008 : Nat)]) (ok := fun _ => True) (okp := fun _ => True) ?hr ?hp (fun _ hk => hk) trivial (Below.refl _ _) (Nat.le_refl _) (by simp) ?_; (case hd => rfl); (case hg => rfl); (case hr => first | (go_simp; done) | (go_simp; rfl)); (case hp => exact (Reps.one (show Kd.M Kd.flt _ _ _ (4846369599423283200 : Nat) [.float .f64 (4846369599423283200 : Nat)] from rfl) (Reps.one (show Kd.M Kd.flt _ _ _ (4607182418800017408 : Nat) [.float .f64 (4607182418800017408 : Nat)] from rfl) (Reps.one (show Kd.M Kd.flt _ _ _ (14069741636278059008 : Nat) [.float .f64 (14069741636278059008 : Nat)] from rfl) (Reps.none _ _))))); intro v455 w75 ho76 hb hg_ hnew_; clear hg_ hnew_; (first | rw [← Ny454.out] at ho76 | (simp only [Int.reduceToNat] at ho76; rw [← Ny454.out] at ho76)); have n0_ := Aside0.mk (Kd.R_elder' (sqR HO449.out) (Kd.R_base ho76) hb); have n1_ := Aside0.mk (Kd.R_lower (Kd.R_new' ho76 (Kd.R_lt (sqR HO449.out))) (below_size sqB)); have n2_ := Aside0.mk (below_step sqB hb); clear HO449; clear HB; have HO449 := n0_; have HO456 := n1_; have HB := n2_; clear n0_ n1_ n2_; clear hb ho76; obtain ⟨Ao77, co77, eo77⟩ := Kd.R_slice HO456.out; subst eo77) | (go_at_call 23; (with_reducible refine (weigh_Exact.calls k _ _ y454 t457 _ ?side1 ?side2 A9.out).mono ?_); (case side1 => repeat (first | exact (Kd.R_reads' HO456.out).2.2 | (with_reducible refine Kd.C_alloc ?_ _) | (with_reducible refine Kd.C_drewN ?_ _) | (with_reducible refine Kd.C_drew ?_))); (case side2 => exact (Kd.R_reads' HO456.out).2.1); rintro e w78 ⟨rfl, hb⟩; have n0_ := Aside0.mk (Kd.R_below (sqR HO449.out) hb); have n1_ := Aside0.mk (Kd.R_below (sqR HO456.out) hb); have n2_ := Aside0.mk (below_step sqB hb); clear HO449; clear HO456; clear HB; have HO449 := n0_; have HO456 := n1_; have HB := n2_; clear n0_ n1_ n2_; (try clear hb); (try clear hb2); (try clear hk); (try clear hi)) | ((with_reducible refine gate_dst (N := 34) rfl ?_); (try (refine gate_guard (by rfl) ?_; dsimp only)); refine Kd.R_lit Kd.flt _ 23 ?hg (N := 34) ?hd (xs := ([(4607182418800017408 : Nat), (4611686018427387904 : Nat)] : List Nat)) (inner := [.float .f64 (4607182418800017408 : Nat), .float .f64 (4611686018427387904 : Nat)]) (ok := fun _ => True) (okp := fun _ => True) ?hr ?hp (fun _ hk => hk) trivial (Below.refl _ _) (Nat.le_refl _) (by simp) ?_; (case hd => rfl); (case hg => rfl); (case hr => first | (go_simp; done) | (go_simp; rfl)); (case hp => exact (Reps.one (show Kd.M Kd.flt _ _ _ (4607182418800017408 : Nat) [.float .f64 (4607182418800017408 : Nat)] from rfl) (Reps.one (show Kd.M Kd.flt _ _ _ (4611686018427387904 : Nat) [.float .f64 (4611686018427387904 : Nat)] from rfl) (Reps.none _ _)))); intro v459 w79 ho80 hb hg_ hnew_; clear hg_ hnew_; (first | rw [← Ny458.out] at ho80 | (simp only [Int.reduceToNat] at ho80; rw [← Ny458.out] at ho80)); have n0_ := Aside0.mk (Kd.R_elder' (sqR HO449.out) (Kd.R_base ho80) hb); have n1_ := Aside0.mk (Kd.R_elder' (sqR HO456.out) (Kd.R_base ho80) hb); have n2_ := Aside0.mk (Kd.R_lower (Kd.R_new' (Kd.R_new' ho80 (Kd.R_lt (sqR HO449.out))) (Kd.R_lt (sqR HO456.out))) (below_size sqB)); have n3_ := Aside0.mk (below_step sqB hb); clear HO449; clear HO456; clear HB; have HO449 := n0_; have HO456 := n1_; have HO460 := n2_; have HB := n3_; clear n0_ n1_ n2_ n3_; clear hb ho80; obtain ⟨Ao81, co81, eo81⟩ := Kd.R_slice HO460.out; subst eo81) | (go_at_call 26; (with_reducible refine (weigh_Sum.calls k _ _ y458 t461 _ ?side1 ?side2 A11.out).mono ?_); (case side1 => repeat (first | exact (Kd.R_reads' HO460.out).2.2 | (with_reducible refine Kd.C_alloc ?_ _) | (with_reducible refine Kd.C_drewN ?_ _) | (with_reducible refine Kd.C_drew ?_))); (case side2 => exact (Kd.R_reads' HO460.out).2.1); rintro e w' ⟨rfl, ⟨nd, rfl⟩⟩) | ((with_reducible refine gate_dst (N := 39) rfl ?_); (try (refine gate_guard (by rfl) ?_; dsimp only)); refine Kd.R_lit Kd.flt _ 23 ?hg (N := 39) ?hd (xs := ([(4607182418800017408 : Nat), (4611686018427387904 : Nat), (4616189618054758400 : Nat)] : List Nat)) (inner := [.float .f64 (4607182418800017408 : Nat), .float .f64 (4611686018427387904 : Nat), .float .f64 (4616189618054758400 : Nat)]) (ok := fun _ => True) (okp := fun _ => True) ?hr ?hp (fun _ hk => hk) trivial (Below.refl _ _) (Nat.le_refl _) (by simp) ?_; (case hd => rfl); (case hg => rfl); (case hr => first | (go_simp; done) | (go_simp; rfl)); (case hp => exact (Reps.one (show Kd.M Kd.flt _ _ _ (4607182418800017408 : Nat) [.float .f64 (4607182418800017408 : Nat)] from rfl) (Reps.one (show Kd.M Kd.flt _ _ _ (4611686018427387904 : Nat) [.float .f64 (4611686018427387904 : Nat)] from rfl) (Reps.one (show Kd.M Kd.flt _ _ _ (4616189618054758400 : Nat) [.float .f64 (4616189618054758400 : Nat)] from rfl) (Reps.none _ _))))); intro v463 w82 ho83 hb hg_ hnew_; clear hg_ hnew_; (first | rw [← Ny462.out] at ho83 | (simp only [Int.reduceToNat] at ho83; rw [← Ny462.out] at ho83)); have n0_ := Aside0.mk (Kd.R_elder' (sqR HO449.out) (Kd.R_base ho83) hb); have n1_ := Aside0.mk (Kd.R_elder' (sqR HO456.out) (Kd.R_base ho83) hb); have n2_ := Aside0.mk (Kd.R_elder' (sqR HO460.out) (Kd.R_base ho83) hb); have n3_ := Aside0.mk (Kd.R_lower (Kd.R_new' (Kd.R_new' (Kd.R_new' ho83 (Kd.R_lt (sqR HO449.out))) (Kd.R_lt (sqR HO456.out))) (Kd.R_lt (sqR HO460.out))) (below_size sqB)); have n4_ := Aside0.mk (below_step sqB hb); clear HO449; clear HO456; clear HO460; clear HB; have HO449 := n0_; have HO456 := n1_; have HO460 := n2_; have HO464 := n3_; have HB := n4_; clear n0_ n1_ n2_ n3_ n4_; clear hb ho83; obtain ⟨Ao84, co84, eo84⟩ := Kd.R_slice HO464.out; subst eo84) | (go_at_call 27; (with_reducible refine (weigh_Pairs.calls k _ _ y462 t465 _ ?side1 ?side2 A13.out).mono ?_); (case side1 => repeat (first | exact (Kd.R_reads' HO464.out).2.2 | (with_reducible refine Kd.C_alloc ?_ _) | (with_reducible refine Kd.C_drewN ?_ _) | (with_reducible refine Kd.C_drew ?_))); (case side2 => exact (Kd.R_reads' HO464.out).2.1); rintro e w85 ⟨rfl, hb⟩; have n0_ := Aside0.mk (Kd.R_below (sqR HO449.out) hb); have n1_ := Aside0.mk (Kd.R_below (sqR HO456.out) hb); have n2_ := Aside0.mk (Kd.R_below (sqR HO460.out) hb); have n3_ := Aside0.mk (Kd.R_below (sqR HO464.out) hb); have n4_ := Aside0.mk (below_step sqB hb); clear HO449; clear HO456; clear HO460; clear HO464; clear HB; have HO449 := n0_; have HO456 := n1_; have HO460 := n2_; have HO464 := n3_; have HB := n4_; clear n0_ n1_ n2_ n3_ n4_; (try clear hb); (try clear hb2); (try clear hk); (try clear hi)))
        go_ret
        exact ⟨sqE', sqB⟩
      ·
       rw [if_neg c12] at H
       have c12b0 : (FloatKind.f64.format.order t461 (4613937818241073152 : Nat) == some .eq) = false := by simpa using c12
       (try (have c12b1 : decide (FloatKind.f64.format.order t461 (4613937818241073152 : Nat) = some .eq) = false := by simpa using c12))
       (try (have c12b2 : (FloatKind.f64.format.order t461 (4613937818241073152 : Nat) == some .eq) = false := by simpa using c12))
       (try (have c12b3 : ¬ (FloatKind.f64.format.order t461 (4613937818241073152 : Nat) = some .eq) := by simpa using c12))
       clear c12
       obtain rfl := Option.some.inj H
       go_enter Tryd.func12, Tryd.ntmps12
       go_wp2_with (first | ((with_reducible refine gate_callee (f := 19) rfl ?_); refine goesL_ (some 6) rfl rfl Tryd.func19 (by kernel_rfl) rfl #[.string (⟨#[50, 53, 101, 45, 50]⟩ : ByteArray)] rfl sqA ?_; (with_reducible refine (weigh_Parse.calls k (⟨#[50, 53, 101, 45, 50]⟩ : ByteArray) t445 t446 _ A1.out).mono ?_); rintro e w86 ⟨rfl, hb⟩; refine ⟨_, rfl, ?_⟩; have n0_ := Aside0.mk (below_step sqB hb); clear HB; have HB := n0_; clear n0_; (try clear hb); (try clear hb2); (try clear hk); (try clear hi)) | ((with_reducible refine gate_dst (N := 10) rfl ?_); (try (refine gate_guard (by rfl) ?_; dsimp only)); refine Kd.R_lit Kd.flt _ 23 ?hg (N := 10) ?hd (xs := ([(4607182418800017408 : Nat), (4611686018427387904 : Nat)] : List Nat)) (inner := [.float .f64 (4607182418800017408 : Nat), .float .f64 (4611686018427387904 : Nat)]) (ok := fun _ => True) (okp := fun _ => True) ?hr ?hp (fun _ hk => hk) trivial (Below.refl _ _) (Nat.le_refl _) (by simp) ?_; (case hd => rfl); (case hg => rfl); (case hr => first | (go_simp; done) | (go_simp; rfl)); (case hp => exact (Reps.one (show Kd.M Kd.flt _ _ _ (4607182418800017408 : Nat) [.float .f64 (4607182418800017408 : Nat)] from rfl) (Reps.one (show Kd.M Kd.flt _ _ _ (4611686018427387904 : Nat) [.float .f64 (4611686018427387904 : Nat)] from rfl) (Reps.none _ _)))); intro v448 w87 ho88 hb hg_ hnew_; clear hg_ hnew_; (first | rw [← Ny447.out] at ho88 | (simp only [Int.reduceToNat] at ho88; rw [← Ny447.out] at ho88)); have n0_ := Aside0.mk (Kd.R_lower ho88 (below_size sqB)); have n1_ := Aside0.mk (below_step sqB hb); clear HB; have HO449 := n0_; have HB := n1_; clear n0_ n1_; clear hb ho88; obtain ⟨Ao89, co89, eo89⟩ := Kd.R_slice HO449.out; subst eo89) | ((with_reducible refine gate_callee (f := 24) rfl ?_); refine goesL_ (some 11) rfl rfl Tryd.func24 (by kernel_rfl) rfl #[.slice Ao89 y447.length co89] rfl sqA ?_; (with_reducible refine (weigh_Mean.calls k _ _ y447 t450 t451 _ ?side1 ?side2 A2.out).mono ?_); (case side1 => repeat (first | exact (Kd.R_reads' HO449.out).2.2 | (with_reducible refine Kd.C_alloc ?_ _) | (with_reducible refine Kd.C_drewN ?_ _) | (with_reducible refine Kd.C_drew ?_))); (case side2 => exact (Kd.R_reads' HO449.out).2.1); rintro e w90 ⟨rfl, hb⟩; refine ⟨_, rfl, ?_⟩; have n0_ := Aside0.mk (Kd.R_below (sqR HO449.out) hb); have n1_ := Aside0.mk (below_step sqB hb); clear HO449; clear HB; have HO449 := n0_; have HB := n1_; clear n0_ n1_; (try clear hb); (try clear hb2); (try clear hk); (try clear hi)) | (go_at_call 18; (with_reducible refine (weigh_Print.calls k (4636737291354636288 : Nat) t452 _ ⟨htab.out.below sqB⟩ A5.out).mono ?_); rintro e w91 ⟨rfl, hb⟩; have n0_ := Aside0.mk (Kd.R_below (sqR HO449.out) hb); have n1_ := Aside0.mk (below_step sqB hb); clear HO449; clear HB; have HO449 := n0_; have HB := n1_; clear n0_ n1_; (try clear hb); (try clear hb2); (try clear hk); (try clear hi)) | (go_at_call 15; (with_reducible refine (weigh_Order.calls (4607182418800017408 : Nat) (4611686018427387904 : Nat) t453 _ A7.out).mono ?_); rintro e w' ⟨rfl, ⟨nd, rfl⟩⟩) | ((with_reducible refine gate_dst (N := 29) rfl ?_); (try (refine gate_guard (by rfl) ?_; dsimp only)); refine Kd.R_lit Kd.flt _ 23 ?hg (N := 29) ?hd (xs := ([(4846369599423283200 : Nat), (4607182418800017408 : Nat), (14069741636278059008 : Nat)] : List Nat)) (inner := [.float .f64 (4846369599423283200 : Nat), .float .f64 (4607182418800017408 : Nat), .float .f64 (14069741636278059008 : Nat)]) (ok := fun _ => True) (okp := fun _ => True) ?hr ?hp (fun _ hk => hk) trivial (Below.refl _ _) (Nat.le_refl _) (by simp) ?_; (case hd => rfl); (case hg => rfl); (case hr => first | (go_simp; done) | (go_simp; rfl)); (case hp => exact (Reps.one (show Kd.M Kd.flt _ _ _ (4846369599423283200 : Nat) [.float .f64 (4846369599423283200 : Nat)] from rfl) (Reps.one (show Kd.M Kd.flt _ _ _ (4607182418800017408 : Nat) [.float .f64 (4607182418800017408 : Nat)] from rfl) (Reps.one (show Kd.M Kd.flt _ _ _ (14069741636278059008 : Nat) [.float .f64 (14069741636278059008 : Nat)] from rfl) (Reps.none _ _))))); intro v455 w92 ho93 hb hg_ hnew_; clear hg_ hnew_; (first | rw [← Ny454.out] at ho93 | (simp only [Int.reduceToNat] at ho93; rw [← Ny454.out] at ho93)); have n0_ := Aside0.mk (Kd.R_elder' (sqR HO449.out) (Kd.R_base ho93) hb); have n1_ := Aside0.mk (Kd.R_lower (Kd.R_new' ho93 (Kd.R_lt (sqR HO449.out))) (below_size sqB)); have n2_ := Aside0.mk (below_step sqB hb); clear HO449; clear HB; have HO449 := n0_; have HO456 := n1_; have HB := n2_; clear n0_ n1_ n2_; clear hb ho93; obtain ⟨Ao94, co94, eo94⟩ := Kd.R_slice HO456.out; subst eo94) | (go_at_call 23; (with_reducible refine (weigh_Exact.calls k _ _ y454 t457 _ ?side1 ?side2 A9.out).mono ?_); (case side1 => repeat (first | exact (Kd.R_reads' HO456.out).2.2 | (with_reducible refine Kd.C_alloc ?_ _) | (with_reducible refine Kd.C_drewN ?_ _) | (with_reducible refine Kd.C_drew ?_))); (case side2 => exact (Kd.R_reads' HO456.out).2.1); rintro e w95 ⟨rfl, hb⟩; have n0_ := Aside0.mk (Kd.R_below (sqR HO449.out) hb); have n1_ := Aside0.mk (Kd.R_below (sqR HO456.out) hb); have n2_ := Aside0.mk (below_step sqB hb); clear HO449; clear HO456; clear HB; have HO449 := n0_; have HO456 := n1_; have HB := n2_; clear n0_ n1_ n2_; (try clear hb); (try clear hb2); (try clear hk); (try clear hi)) | ((with_reducible refine gate_dst (N := 34) rfl ?_); (try (refine gate_guard (by rfl) ?_; dsimp only)); refine Kd.R_lit Kd.flt _ 23 ?hg (N := 34) ?hd (xs := ([(4607182418800017408 : Nat), (4611686018427387904 : Nat)] : List Nat)) (inner := [.float .f64 (4607182418800017408 : Nat), .float .f64 (4611686018427387904 : Nat)]) (ok := fun _ => True) (okp := fun _ => True) ?hr ?hp (fun _ hk => hk) trivial (Below.refl _ _) (Nat.le_refl _) (by simp) ?_; (case hd => rfl); (case hg => rfl); (case hr => first | (go_simp; done) | (go_simp; rfl)); (case hp => exact (Reps.one (show Kd.M Kd.flt _ _ _ (4607182418800017408 : Nat) [.float .f64 (4607182418800017408 : Nat)] from rfl) (Reps.one (show Kd.M Kd.flt _ _ _ (4611686018427387904 : Nat) [.float .f64 (4611686018427387904 : Nat)] from rfl) (Reps.none _ _)))); intro v459 w96 ho97 hb hg_ hnew_; clear hg_ hnew_; (first | rw [← Ny458.out] at ho97 | (simp only [Int.reduceToNat] at ho97; rw [← Ny458.out] at ho97)); have n0_ := Aside0.mk (Kd.R_elder' (sqR HO449.out) (Kd.R_base ho97) hb); have n1_ := Aside0.mk (Kd.R_elder' (sqR HO456.out) (Kd.R_base ho97) hb); have n2_ := Aside0.mk (Kd.R_lower (Kd.R_new' (Kd.R_new' ho97 (Kd.R_lt (sqR HO449.out))) (Kd.R_lt (sqR HO456.out))) (below_size sqB)); have n3_ := Aside0.mk (below_step sqB hb); clear HO449; clear HO456; clear HB; have HO449 := n0_; have HO456 := n1_; have HO460 := n2_; have HB := n3_; clear n0_ n1_ n2_ n3_; clear hb ho97; obtain ⟨Ao98, co98, eo98⟩ := Kd.R_slice HO460.out; subst eo98) | (go_at_call 26; (with_reducible refine (weigh_Sum.calls k _ _ y458 t461 _ ?side1 ?side2 A11.out).mono ?_); (case side1 => repeat (first | exact (Kd.R_reads' HO460.out).2.2 | (with_reducible refine Kd.C_alloc ?_ _) | (with_reducible refine Kd.C_drewN ?_ _) | (with_reducible refine Kd.C_drew ?_))); (case side2 => exact (Kd.R_reads' HO460.out).2.1); rintro e w' ⟨rfl, ⟨nd, rfl⟩⟩))
       go_ret
       exact ⟨sqE', sqB⟩
     ·
      rw [if_neg c10] at H
      have c10b0 : (FloatKind.f64.format.order t457 (4607182418800017408 : Nat) == some .eq) = false := by simpa using c10
      (try (have c10b1 : decide (FloatKind.f64.format.order t457 (4607182418800017408 : Nat) = some .eq) = false := by simpa using c10))
      (try (have c10b2 : (FloatKind.f64.format.order t457 (4607182418800017408 : Nat) == some .eq) = false := by simpa using c10))
      (try (have c10b3 : ¬ (FloatKind.f64.format.order t457 (4607182418800017408 : Nat) = some .eq) := by simpa using c10))
      clear c10
      obtain rfl := Option.some.inj H
      go_enter Tryd.func12, Tryd.ntmps12
      go_wp2_with (first | ((with_reducible refine gate_callee (f := 19) rfl ?_); refine goesL_ (some 6) rfl rfl Tryd.func19 (by kernel_rfl) rfl #[.string (⟨#[50, 53, 101, 45, 50]⟩ : ByteArray)] rfl sqA ?_; (with_reducible refine (weigh_Parse.calls k (⟨#[50, 53, 101, 45, 50]⟩ : ByteArray) t445 t446 _ A1.out).mono ?_); rintro e w99 ⟨rfl, hb⟩; refine ⟨_, rfl, ?_⟩; have n0_ := Aside0.mk (below_step sqB hb); clear HB; have HB := n0_; clear n0_; (try clear hb); (try clear hb2); (try clear hk); (try clear hi)) | ((with_reducible refine gate_dst (N := 10) rfl ?_); (try (refine gate_guard (by rfl) ?_; dsimp only)); refine Kd.R_lit Kd.flt _ 23 ?hg (N := 10) ?hd (xs := ([(4607182418800017408 : Nat), (4611686018427387904 : Nat)] : List Nat)) (inner := [.float .f64 (4607182418800017408 : Nat), .float .f64 (4611686018427387904 : Nat)]) (ok := fun _ => True) (okp := fun _ => True) ?hr ?hp (fun _ hk => hk) trivial (Below.refl _ _) (Nat.le_refl _) (by simp) ?_; (case hd => rfl); (case hg => rfl); (case hr => first | (go_simp; done) | (go_simp; rfl)); (case hp => exact (Reps.one (show Kd.M Kd.flt _ _ _ (4607182418800017408 : Nat) [.float .f64 (4607182418800017408 : Nat)] from rfl) (Reps.one (show Kd.M Kd.flt _ _ _ (4611686018427387904 : Nat) [.float .f64 (4611686018427387904 : Nat)] from rfl) (Reps.none _ _)))); intro v448 w100 ho101 hb hg_ hnew_; clear hg_ hnew_; (first | rw [← Ny447.out] at ho101 | (simp only [Int.reduceToNat] at ho101; rw [← Ny447.out] at ho101)); have n0_ := Aside0.mk (Kd.R_lower ho101 (below_size sqB)); have n1_ := Aside0.mk (below_step sqB hb); clear HB; have HO449 := n0_; have HB := n1_; clear n0_ n1_; clear hb ho101; obtain ⟨Ao102, co102, eo102⟩ := Kd.R_slice HO449.out; subst eo102) | ((with_reducible refine gate_callee (f := 24) rfl ?_); refine goesL_ (some 11) rfl rfl Tryd.func24 (by kernel_rfl) rfl #[.slice Ao102 y447.length co102] rfl sqA ?_; (with_reducible refine (weigh_Mean.calls k _ _ y447 t450 t451 _ ?side1 ?side2 A2.out).mono ?_); (case side1 => repeat (first | exact (Kd.R_reads' HO449.out).2.2 | (with_reducible refine Kd.C_alloc ?_ _) | (with_reducible refine Kd.C_drewN ?_ _) | (with_reducible refine Kd.C_drew ?_))); (case side2 => exact (Kd.R_reads' HO449.out).2.1); rintro e w103 ⟨rfl, hb⟩; refine ⟨_, rfl, ?_⟩; have n0_ := Aside0.mk (Kd.R_below (sqR HO449.out) hb); have n1_ := Aside0.mk (below_step sqB hb); clear HO449; clear HB; have HO449 := n0_; have HB := n1_; clear n0_ n1_; (try clear hb); (try clear hb2); (try clear hk); (try clear hi)) | (go_at_call 18; (with_reducible refine (weigh_Print.calls k (4636737291354636288 : Nat) t452 _ ⟨htab.out.below sqB⟩ A5.out).mono ?_); rintro e w104 ⟨rfl, hb⟩; have n0_ := Aside0.mk (Kd.R_below (sqR HO449.out) hb); have n1_ := Aside0.mk (below_step sqB hb); clear HO449; clear HB; have HO449 := n0_; have HB := n1_; clear n0_ n1_; (try clear hb); (try clear hb2); (try clear hk); (try clear hi)) | (go_at_call 15; (with_reducible refine (weigh_Order.calls (4607182418800017408 : Nat) (4611686018427387904 : Nat) t453 _ A7.out).mono ?_); rintro e w' ⟨rfl, ⟨nd, rfl⟩⟩) | ((with_reducible refine gate_dst (N := 29) rfl ?_); (try (refine gate_guard (by rfl) ?_; dsimp only)); refine Kd.R_lit Kd.flt _ 23 ?hg (N := 29) ?hd (xs := ([(4846369599423283200 : Nat), (4607182418800017408 : Nat), (14069741636278059008 : Nat)] : List Nat)) (inner := [.float .f64 (4846369599423283200 : Nat), .float .f64 (4607182418800017408 : Nat), .float .f64 (14069741636278059008 : Nat)]) (ok := fun _ => True) (okp := fun _ => True) ?hr ?hp (fun _ hk => hk) trivial (Below.refl _ _) (Nat.le_refl _) (by simp) ?_; (case hd => rfl); (case hg => rfl); (case hr => first | (go_simp; done) | (go_simp; rfl)); (case hp => exact (Reps.one (show Kd.M Kd.flt _ _ _ (4846369599423283200 : Nat) [.float .f64 (4846369599423283200 : Nat)] from rfl) (Reps.one (show Kd.M Kd.flt _ _ _ (4607182418800017408 : Nat) [.float .f64 (4607182418800017408 : Nat)] from rfl) (Reps.one (show Kd.M Kd.flt _ _ _ (14069741636278059008 : Nat) [.float .f64 (14069741636278059008 : Nat)] from rfl) (Reps.none _ _))))); intro v455 w105 ho106 hb hg_ hnew_; clear hg_ hnew_; (first | rw [← Ny454.out] at ho106 | (simp only [Int.reduceToNat] at ho106; rw [← Ny454.out] at ho106)); have n0_ := Aside0.mk (Kd.R_elder' (sqR HO449.out) (Kd.R_base ho106) hb); have n1_ := Aside0.mk (Kd.R_lower (Kd.R_new' ho106 (Kd.R_lt (sqR HO449.out))) (below_size sqB)); have n2_ := Aside0.mk (below_step sqB hb); clear HO449; clear HB; have HO449 := n0_; have HO456 := n1_; have HB := n2_; clear n0_ n1_ n2_; clear hb ho106; obtain ⟨Ao107, co107, eo107⟩ := Kd.R_slice HO456.out; subst eo107) | (go_at_call 23; (with_reducible refine (weigh_Exact.calls k _ _ y454 t457 _ ?side1 ?side2 A9.out).mono ?_); (case side1 => repeat (first | exact (Kd.R_reads' HO456.out).2.2 | (with_reducible refine Kd.C_alloc ?_ _) | (with_reducible refine Kd.C_drewN ?_ _) | (with_reducible refine Kd.C_drew ?_))); (case side2 => exact (Kd.R_reads' HO456.out).2.1); rintro e w108 ⟨rfl, hb⟩; have n0_ := Aside0.mk (Kd.R_below (sqR HO449.out) hb); have n1_ := Aside0.mk (Kd.R_below (sqR HO456.out) hb); have n2_ := Aside0.mk (below_step sqB hb); clear HO449; clear HO456; clear HB; have HO449 := n0_; have HO456 := n1_; have HB := n2_; clear n0_ n1_ n2_; (try clear hb); (try clear hb2); (try clear hk); (try clear hi)))
      go_ret
      exact ⟨sqE', sqB⟩
    ·
     rw [if_neg c8] at H
     have c8b0 := beq_eq_false_iff_ne.mpr c8
     have c8b1 := bne_iff_ne.mpr c8
     obtain rfl := Option.some.inj H
     go_enter Tryd.func12, Tryd.ntmps12
     go_wp2_with (first | ((with_reducible refine gate_callee (f := 19) rfl ?_); refine goesL_ (some 6) rfl rfl Tryd.func19 (by kernel_rfl) rfl #[.string (⟨#[50, 53, 101, 45, 50]⟩ : ByteArray)] rfl sqA ?_; (with_reducible refine (weigh_Parse.calls k (⟨#[50, 53, 101, 45, 50]⟩ : ByteArray) t445 t446 _ A1.out).mono ?_); rintro e w109 ⟨rfl, hb⟩; refine ⟨_, rfl, ?_⟩; have n0_ := Aside0.mk (below_step sqB hb); clear HB; have HB := n0_; clear n0_; (try clear hb); (try clear hb2); (try clear hk); (try clear hi)) | ((with_reducible refine gate_dst (N := 10) rfl ?_); (try (refine gate_guard (by rfl) ?_; dsimp only)); refine Kd.R_lit Kd.flt _ 23 ?hg (N := 10) ?hd (xs := ([(4607182418800017408 : Nat), (4611686018427387904 : Nat)] : List Nat)) (inner := [.float .f64 (4607182418800017408 : Nat), .float .f64 (4611686018427387904 : Nat)]) (ok := fun _ => True) (okp := fun _ => True) ?hr ?hp (fun _ hk => hk) trivial (Below.refl _ _) (Nat.le_refl _) (by simp) ?_; (case hd => rfl); (case hg => rfl); (case hr => first | (go_simp; done) | (go_simp; rfl)); (case hp => exact (Reps.one (show Kd.M Kd.flt _ _ _ (4607182418800017408 : Nat) [.float .f64 (4607182418800017408 : Nat)] from rfl) (Reps.one (show Kd.M Kd.flt _ _ _ (4611686018427387904 : Nat) [.float .f64 (4611686018427387904 : Nat)] from rfl) (Reps.none _ _)))); intro v448 w110 ho111 hb hg_ hnew_; clear hg_ hnew_; (first | rw [← Ny447.out] at ho111 | (simp only [Int.reduceToNat] at ho111; rw [← Ny447.out] at ho111)); have n0_ := Aside0.mk (Kd.R_lower ho111 (below_size sqB)); have n1_ := Aside0.mk (below_step sqB hb); clear HB; have HO449 := n0_; have HB := n1_; clear n0_ n1_; clear hb ho111; obtain ⟨Ao112, co112, eo112⟩ := Kd.R_slice HO449.out; subst eo112) | ((with_reducible refine gate_callee (f := 24) rfl ?_); refine goesL_ (some 11) rfl rfl Tryd.func24 (by kernel_rfl) rfl #[.slice Ao112 y447.length co112] rfl sqA ?_; (with_reducible refine (weigh_Mean.calls k _ _ y447 t450 t451 _ ?side1 ?side2 A2.out).mono ?_); (case side1 => repeat (first | exact (Kd.R_reads' HO449.out).2.2 | (with_reducible refine Kd.C_alloc ?_ _) | (with_reducible refine Kd.C_drewN ?_ _) | (with_reducible refine Kd.C_drew ?_))); (case side2 => exact (Kd.R_reads' HO449.out).2.1); rintro e w113 ⟨rfl, hb⟩; refine ⟨_, rfl, ?_⟩; have n0_ := Aside0.mk (Kd.R_below (sqR HO449.out) hb); have n1_ := Aside0.mk (below_step sqB hb); clear HO449; clear HB; have HO449 := n0_; have HB := n1_; clear n0_ n1_; (try clear hb); (try clear hb2); (try clear hk); (try clear hi)) | (go_at_call 18; (with_reducible refine (weigh_Print.calls k (4636737291354636288 : Nat) t452 _ ⟨htab.out.below sqB⟩ A5.out).mono ?_); rintro e w114 ⟨rfl, hb⟩; have n0_ := Aside0.mk (Kd.R_below (sqR HO449.out) hb); have n1_ := Aside0.mk (below_step sqB hb); clear HO449; clear HB; have HO449 := n0_; have HB := n1_; clear n0_ n1_; (try clear hb); (try clear hb2); (try clear hk); (try clear hi)) | (go_at_call 15; (with_reducible refine (weigh_Order.calls (4607182418800017408 : Nat) (4611686018427387904 : Nat) t453 _ A7.out).mono ?_); rintro e w' ⟨rfl, ⟨nd, rfl⟩⟩))
     go_ret
     exact ⟨sqE', sqB⟩
   ·
    rw [if_neg c6] at H
    have c6b0 := beq_eq_false_iff_ne.mpr c6
    have c6b1 := bne_iff_ne.mpr c6
    obtain rfl := Option.some.inj H
    go_enter Tryd.func12, Tryd.ntmps12
    go_wp2_with (first | ((with_reducible refine gate_callee (f := 19) rfl ?_); refine goesL_ (some 6) rfl rfl Tryd.func19 (by kernel_rfl) rfl #[.string (⟨#[50, 53, 101, 45, 50]⟩ : ByteArray)] rfl sqA ?_; (with_reducible refine (weigh_Parse.calls k (⟨#[50, 53, 101, 45, 50]⟩ : ByteArray) t445 t446 _ A1.out).mono ?_); rintro e w115 ⟨rfl, hb⟩; refine ⟨_, rfl, ?_⟩; have n0_ := Aside0.mk (below_step sqB hb); clear HB; have HB := n0_; clear n0_; (try clear hb); (try clear hb2); (try clear hk); (try clear hi)) | ((with_reducible refine gate_dst (N := 10) rfl ?_); (try (refine gate_guard (by rfl) ?_; dsimp only)); refine Kd.R_lit Kd.flt _ 23 ?hg (N := 10) ?hd (xs := ([(4607182418800017408 : Nat), (4611686018427387904 : Nat)] : List Nat)) (inner := [.float .f64 (4607182418800017408 : Nat), .float .f64 (4611686018427387904 : Nat)]) (ok := fun _ => True) (okp := fun _ => True) ?hr ?hp (fun _ hk => hk) trivial (Below.refl _ _) (Nat.le_refl _) (by simp) ?_; (case hd => rfl); (case hg => rfl); (case hr => first | (go_simp; done) | (go_simp; rfl)); (case hp => exact (Reps.one (show Kd.M Kd.flt _ _ _ (4607182418800017408 : Nat) [.float .f64 (4607182418800017408 : Nat)] from rfl) (Reps.one (show Kd.M Kd.flt _ _ _ (4611686018427387904 : Nat) [.float .f64 (4611686018427387904 : Nat)] from rfl) (Reps.none _ _)))); intro v448 w116 ho117 hb hg_ hnew_; clear hg_ hnew_; (first | rw [← Ny447.out] at ho117 | (simp only [Int.reduceToNat] at ho117; rw [← Ny447.out] at ho117)); have n0_ := Aside0.mk (Kd.R_lower ho117 (below_size sqB)); have n1_ := Aside0.mk (below_step sqB hb); clear HB; have HO449 := n0_; have HB := n1_; clear n0_ n1_; clear hb ho117; obtain ⟨Ao118, co118, eo118⟩ := Kd.R_slice HO449.out; subst eo118) | ((with_reducible refine gate_callee (f := 24) rfl ?_); refine goesL_ (some 11) rfl rfl Tryd.func24 (by kernel_rfl) rfl #[.slice Ao118 y447.length co118] rfl sqA ?_; (with_reducible refine (weigh_Mean.calls k _ _ y447 t450 t451 _ ?side1 ?side2 A2.out).mono ?_); (case side1 => repeat (first | exact (Kd.R_reads' HO449.out).2.2 | (with_reducible refine Kd.C_alloc ?_ _) | (with_reducible refine Kd.C_drewN ?_ _) | (with_reducible refine Kd.C_drew ?_))); (case side2 => exact (Kd.R_reads' HO449.out).2.1); rintro e w119 ⟨rfl, hb⟩; refine ⟨_, rfl, ?_⟩; have n0_ := Aside0.mk (Kd.R_below (sqR HO449.out) hb); have n1_ := Aside0.mk (below_step sqB hb); clear HO449; clear HB; have HO449 := n0_; have HB := n1_; clear n0_ n1_; (try clear hb); (try clear hb2); (try clear hk); (try clear hi)) | (go_at_call 18; (with_reducible refine (weigh_Print.calls k (4636737291354636288 : Nat) t452 _ ⟨htab.out.below sqB⟩ A5.out).mono ?_); rintro e w120 ⟨rfl, hb⟩; have n0_ := Aside0.mk (Kd.R_below (sqR HO449.out) hb); have n1_ := Aside0.mk (below_step sqB hb); clear HO449; clear HB; have HO449 := n0_; have HB := n1_; clear n0_ n1_; (try clear hb); (try clear hb2); (try clear hk); (try clear hi)))
    go_ret
    exact ⟨sqE', sqB⟩
  ·
   rw [if_neg c4] at H
   have c4b0 := beq_eq_false_iff_ne.mpr c4
   have c4b1 := bne_iff_ne.mpr c4
   obtain rfl := Option.some.inj H
   go_enter Tryd.func12, Tryd.ntmps12
   go_wp2_with (first | ((with_reducible refine gate_callee (f := 19) rfl ?_); refine goesL_ (some 6) rfl rfl Tryd.func19 (by kernel_rfl) rfl #[.string (⟨#[50, 53, 101, 45, 50]⟩ : ByteArray)] rfl sqA ?_; (with_reducible refine (weigh_Parse.calls k (⟨#[50, 53, 101, 45, 50]⟩ : ByteArray) t445 t446 _ A1.out).mono ?_); rintro e w121 ⟨rfl, hb⟩; refine ⟨_, rfl, ?_⟩; have n0_ := Aside0.mk (below_step sqB hb); clear HB; have HB := n0_; clear n0_; (try clear hb); (try clear hb2); (try clear hk); (try clear hi)) | ((with_reducible refine gate_dst (N := 10) rfl ?_); (try (refine gate_guard (by rfl) ?_; dsimp only)); refine Kd.R_lit Kd.flt _ 23 ?hg (N := 10) ?hd (xs := ([(4607182418800017408 : Nat), (4611686018427387904 : Nat)] : List Nat)) (inner := [.float .f64 (4607182418800017408 : Nat), .float .f64 (4611686018427387904 : Nat)]) (ok := fun _ => True) (okp := fun _ => True) ?hr ?hp (fun _ hk => hk) trivial (Below.refl _ _) (Nat.le_refl _) (by simp) ?_; (case hd => rfl); (case hg => rfl); (case hr => first | (go_simp; done) | (go_simp; rfl)); (case hp => exact (Reps.one (show Kd.M Kd.flt _ _ _ (4607182418800017408 : Nat) [.float .f64 (4607182418800017408 : Nat)] from rfl) (Reps.one (show Kd.M Kd.flt _ _ _ (4611686018427387904 : Nat) [.float .f64 (4611686018427387904 : Nat)] from rfl) (Reps.none _ _)))); intro v448 w122 ho123 hb hg_ hnew_; clear hg_ hnew_; (first | rw [← Ny447.out] at ho123 | (simp only [Int.reduceToNat] at ho123; rw [← Ny447.out] at ho123)); have n0_ := Aside0.mk (Kd.R_lower ho123 (below_size sqB)); have n1_ := Aside0.mk (below_step sqB hb); clear HB; have HO449 := n0_; have HB := n1_; clear n0_ n1_; clear hb ho123; obtain ⟨Ao124, co124, eo124⟩ := Kd.R_slice HO449.out; subst eo124) | ((with_reducible refine gate_callee (f := 24) rfl ?_); refine goesL_ (some 11) rfl rfl Tryd.func24 (by kernel_rfl) rfl #[.slice Ao124 y447.length co124] rfl sqA ?_; (with_reducible refine (weigh_Mean.calls k _ _ y447 t450 t451 _ ?side1 ?side2 A2.out).mono ?_); (case side1 => repeat (first | exact (Kd.R_reads' HO449.out).2.2 | (with_reducible refine Kd.C_alloc ?_ _) | (with_reducible refine Kd.C_drewN ?_ _) | (with_reducible refine Kd.C_drew ?_))); (case side2 => exact (Kd.R_reads' HO449.out).2.1); rintro e w125 ⟨rfl, hb⟩; refine ⟨_, rfl, ?_⟩; have n0_ := Aside0.mk (Kd.R_below (sqR HO449.out) hb); have n1_ := Aside0.mk (below_step sqB hb); clear HO449; clear HB; have HO449 := n0_; have HB := n1_; clear n0_ n1_; (try clear hb); (try clear hb2); (try clear hk); (try clear hi)))
   go_ret
   exact ⟨sqE', sqB⟩
 ·
  rw [if_neg c3] at H
  have c3b0 : (FloatKind.f64.format.order t445 (4598175219545276416 : Nat) == some .eq) = false := by simpa using c3
  (try (have c3b1 : decide (FloatKind.f64.format.order t445 (4598175219545276416 : Nat) = some .eq) = false := by simpa using c3))
  (try (have c3b2 : (FloatKind.f64.format.order t445 (4598175219545276416 : Nat) == some .eq) = false := by simpa using c3))
  (try (have c3b3 : ¬ (FloatKind.f64.format.order t445 (4598175219545276416 : Nat) = some .eq) := by simpa using c3))
  clear c3
  obtain rfl := Option.some.inj H
  go_enter Tryd.func12, Tryd.ntmps12
  go_wp2_with (first | ((with_reducible refine gate_callee (f := 19) rfl ?_); refine goesL_ (some 6) rfl rfl Tryd.func19 (by kernel_rfl) rfl #[.string (⟨#[50, 53, 101, 45, 50]⟩ : ByteArray)] rfl sqA ?_; (with_reducible refine (weigh_Parse.calls k (⟨#[50, 53, 101, 45, 50]⟩ : ByteArray) t445 t446 _ A1.out).mono ?_); rintro e w126 ⟨rfl, hb⟩; refine ⟨_, rfl, ?_⟩; have n0_ := Aside0.mk (below_step sqB hb); clear HB; have HB := n0_; clear n0_; (try clear hb); (try clear hb2); (try clear hk); (try clear hi)) | ((with_reducible refine gate_dst (N := 10) rfl ?_); (try (refine gate_guard (by rfl) ?_; dsimp only)); refine Kd.R_lit Kd.flt _ 23 ?hg (N := 10) ?hd (xs := ([(4607182418800017408 : Nat), (4611686018427387904 : Nat)] : List Nat)) (inner := [.float .f64 (4607182418800017408 : Nat), .float .f64 (4611686018427387904 : Nat)]) (ok := fun _ => True) (okp := fun _ => True) ?hr ?hp (fun _ hk => hk) trivial (Below.refl _ _) (Nat.le_refl _) (by simp) ?_; (case hd => rfl); (case hg => rfl); (case hr => first | (go_simp; done) | (go_simp; rfl)); (case hp => exact (Reps.one (show Kd.M Kd.flt _ _ _ (4607182418800017408 : Nat) [.float .f64 (4607182418800017408 : Nat)] from rfl) (Reps.one (show Kd.M Kd.flt _ _ _ (4611686018427387904 : Nat) [.float .f64 (4611686018427387904 : Nat)] from rfl) (Reps.none _ _)))); intro v448 w127 ho128 hb hg_ hnew_; clear hg_ hnew_; (first | rw [← Ny447.out] at ho128 | (simp only [Int.reduceToNat] at ho128; rw [← Ny447.out] at ho128)); have n0_ := Aside0.mk (Kd.R_lower ho128 (below_size sqB)); have n1_ := Aside0.mk (below_step sqB hb); clear HB; have HO449 := n0_; have HB := n1_; clear n0_ n1_; clear hb ho128; obtain ⟨Ao129, co129, eo129⟩ := Kd.R_slice HO449.out; subst eo129) | ((with_reducible refine gate_callee (f := 24) rfl ?_); refine goesL_ (some 11) rfl rfl Tryd.func24 (by kernel_rfl) rfl #[.slice Ao129 y447.length co129] rfl sqA ?_; (with_reducible refine (weigh_Mean.calls k _ _ y447 t450 t451 _ ?side1 ?side2 A2.out).mono ?_); (case side1 => repeat (first | exact (Kd.R_reads' HO449.out).2.2 | (with_reducible refine Kd.C_alloc ?_ _) | (with_reducible refine Kd.C_drewN ?_ _) | (with_reducible refine Kd.C_drew ?_))); (case side2 => exact (Kd.R_reads' HO449.out).2.1); rintro e w130 ⟨rfl, hb⟩; refine ⟨_, rfl, ?_⟩; have n0_ := Aside0.mk (Kd.R_below (sqR HO449.out) hb); have n1_ := Aside0.mk (below_step sqB hb); clear HO449; clear HB; have HO449 := n0_; have HB := n1_; clear n0_ n1_; (try clear hb); (try clear hb2); (try clear hk); (try clear hi)))
  go_ret
  exact ⟨sqE', sqB⟩

/-! ### endonymlaw2_WeighNaN: function 4 -/
def endonymlaw2_WeighNaN.f (k : Nat) (a0 : Int) : Option (Bool) := (api_Float.f (Go.bits .or .u64 a0 9221120237041090560)).bind fun t467 => ((weigh_Narrow.f t467).bind fun t468 => ((endonymlaw2_told.f k).bind fun t469 => (if t469 = true then ((api_Bits.f t468).bind fun t470 => (some (t470 == 9221120237041090560))) else (some false))))
theorem endonymlaw2_WeighNaN.mono : ∀ a0 k, LeO (endonymlaw2_WeighNaN.f k a0) (endonymlaw2_WeighNaN.f (k + 1) a0) := by
 intro a0 k
 unfold endonymlaw2_WeighNaN.f
 repeat' first | (with_reducible first | apply endonymlaw2_told.mono | apply LeO.refl | apply LeO.none | refine LeO.ite ?_ ?_ | refine LeO.bind ?_ (fun _ => ?_)) | apply endonymlaw2_told.mono | apply LeO.none | refine LeO.ite ?_ ?_ | refine LeO.bind ?_ (fun _ => ?_)
set_option maxHeartbeats 8000000 in
set_option maxRecDepth 100000 in
theorem endonymlaw2_WeighNaN.calls (k : Nat) (a0 : Int) (r : Bool) (w : World) (htab : Aside0 (Rm.Tab w)) (h : endonymlaw2_WeighNaN.f k a0 = some r) :
  Calls Tryd.prog 4 #[.int .u64 a0] w fun e w' => e = .returned (.bool r) ∧ Below w.heap.size w w' := by
 have HB := Aside0.mk (Below.refl w.heap.size w)
 have H : ((api_Float.f (Go.bits .or .u64 a0 9221120237041090560)).bind fun t467 => ((weigh_Narrow.f t467).bind fun t468 => ((endonymlaw2_told.f k).bind fun t469 => (if t469 = true then ((api_Bits.f t468).bind fun t470 => (some (t470 == 9221120237041090560))) else (some false))))) = some r := h
 clear h
 replace H := Option.bind_eq_some_iff.mp H
 obtain ⟨t467, A20, H⟩ := H
 try dsimp only at H
 have A2 := Aside0.mk A20
 clear A20
 replace H := Option.bind_eq_some_iff.mp H
 obtain ⟨t468, A30, H⟩ := H
 try dsimp only at H
 have A3 := Aside0.mk A30
 clear A30
 replace H := Option.bind_eq_some_iff.mp H
 obtain ⟨t469, A40, H⟩ := H
 try dsimp only at H
 have A4 := Aside0.mk A40
 clear A40
 by_cases c5 : t469 = true
 ·
  subst c5
  have H1 : ((api_Bits.f t468).bind fun t470 => (some (t470 == 9221120237041090560))) = some r := by rw [if_pos rfl] at H; exact H
  clear H
  have H := H1
  clear H1
  replace H := Option.bind_eq_some_iff.mp H
  obtain ⟨t470, A60, H⟩ := H
  try dsimp only at H
  have A6 := Aside0.mk A60
  clear A60
  obtain rfl := Option.some.inj H
  go_enter Tryd.func4, Tryd.ntmps4
  go_wp2_with (first | ((with_reducible refine gate_callee (f := 11) rfl ?_); refine goesL_ (some 6) rfl rfl Tryd.func11 (by kernel_rfl) rfl #[.int .u64 (Go.bits .or .u64 a0 9221120237041090560)] rfl sqA ?_; (with_reducible refine (api_Float.calls (Go.bits .or .u64 a0 9221120237041090560) t467 _ A2.out).mono ?_); rintro e w' ⟨rfl, ⟨nd, rfl⟩⟩; refine ⟨_, rfl, ?_⟩) | ((with_reducible refine gate_callee (f := 10) rfl ?_); refine goesL_ (some 7) rfl rfl Tryd.func10 (by kernel_rfl) rfl #[.float .f64 t467] rfl sqA ?_; (with_reducible refine (weigh_Narrow.calls t467 t468 _ A3.out).mono ?_); rintro e w' ⟨rfl, ⟨nd, rfl⟩⟩; refine ⟨_, rfl, ?_⟩) | ((with_reducible refine gate_callee (f := 12) rfl ?_); refine goesL_ (some 8) rfl rfl Tryd.func12 (by kernel_rfl) rfl #[] rfl sqA ?_; (with_reducible refine (endonymlaw2_told.calls k  true _ ⟨htab.out.below sqB⟩ A4.out).mono ?_); rintro e w7 ⟨rfl, hb⟩; refine ⟨_, rfl, ?_⟩; have n0_ := Aside0.mk (below_step sqB hb); clear HB; have HB := n0_; clear n0_; (try clear hb); (try clear hb2); (try clear hk); (try clear hi)) | (go_at_call 16; (with_reducible refine (api_Bits.calls t468 t470 _ A6.out).mono ?_); rintro e w' ⟨rfl, ⟨nd, rfl⟩⟩))
  go_ret
  exact ⟨sqE', sqB⟩
 ·
  replace c5 := Bool.eq_false_iff.mpr c5
  subst c5
  have H1 : (some false) = some r := by rw [if_neg (show ¬ (false = true) by decide)] at H; exact H
  clear H
  have H := H1
  clear H1
  obtain rfl := Option.some.inj H
  go_enter Tryd.func4, Tryd.ntmps4
  go_wp2_with (first | ((with_reducible refine gate_callee (f := 11) rfl ?_); refine goesL_ (some 6) rfl rfl Tryd.func11 (by kernel_rfl) rfl #[.int .u64 (Go.bits .or .u64 a0 9221120237041090560)] rfl sqA ?_; (with_reducible refine (api_Float.calls (Go.bits .or .u64 a0 9221120237041090560) t467 _ A2.out).mono ?_); rintro e w' ⟨rfl, ⟨nd, rfl⟩⟩; refine ⟨_, rfl, ?_⟩) | ((with_reducible refine gate_callee (f := 10) rfl ?_); refine goesL_ (some 7) rfl rfl Tryd.func10 (by kernel_rfl) rfl #[.float .f64 t467] rfl sqA ?_; (with_reducible refine (weigh_Narrow.calls t467 t468 _ A3.out).mono ?_); rintro e w' ⟨rfl, ⟨nd, rfl⟩⟩; refine ⟨_, rfl, ?_⟩) | ((with_reducible refine gate_callee (f := 12) rfl ?_); refine goesL_ (some 8) rfl rfl Tryd.func12 (by kernel_rfl) rfl #[] rfl sqA ?_; (with_reducible refine (endonymlaw2_told.calls k  false _ ⟨htab.out.below sqB⟩ A4.out).mono ?_); rintro e w8 ⟨rfl, hb⟩; refine ⟨_, rfl, ?_⟩; have n0_ := Aside0.mk (below_step sqB hb); clear HB; have HB := n0_; clear n0_; (try clear hb); (try clear hb2); (try clear hk); (try clear hi)))
  go_ret
  exact ⟨sqE', sqB⟩

/-! ### endonymref2_place: function 35 -/
def endonymref2_place.f (a0 : Int) : Option (Int × Int) := if (Go.bits .andNot .u64 a0 9223372036854775808) > 9218868437227405312 then (some (2, 0)) else (if a0 ≥ 9223372036854775808 then (some (0, IntKind.u64.wrap (18446744073709551615 - a0))) else (some (1, a0)))
set_option maxHeartbeats 8000000 in
set_option maxRecDepth 100000 in
theorem endonymref2_place.calls (a0 : Int) (r1 : Int) (r2 : Int) (w : World) (h : endonymref2_place.f a0 = some (r1, r2)) :
  Calls Tryd.prog 35 #[.int .u64 a0] w fun e w' => e = .returned (.tuple #[.int .i64 r1, .int .u64 r2]) ∧ Drawn0 w w' := by
 have H : (if (Go.bits .andNot .u64 a0 9223372036854775808) > 9218868437227405312 then (some (2, 0)) else (if a0 ≥ 9223372036854775808 then (some (0, IntKind.u64.wrap (18446744073709551615 - a0))) else (some (1, a0)))) = some (r1, r2) := h
 clear h
 by_cases c2 : (Go.bits .andNot .u64 a0 9223372036854775808) > 9218868437227405312
 ·
  rw [if_pos c2] at H
  have c2b0 := decide_eq_true c2
  clear c2
  simp only [Option.some.injEq, Prod.mk.injEq] at H
  obtain ⟨rfl, rfl⟩ := H
  go_enter Tryd.func35, Tryd.ntmps35
  go_wp2
  go_ret2
  exact ⟨sqE, sqW⟩
 ·
  rw [if_neg c2] at H
  have c2b0 := decide_eq_false c2
  clear c2
  by_cases c3 : a0 ≥ 9223372036854775808
  ·
   rw [if_pos c3] at H
   have c3b0 := decide_eq_true c3
   clear c3
   simp only [Option.some.injEq, Prod.mk.injEq] at H
   obtain ⟨rfl, rfl⟩ := H
   go_enter Tryd.func35, Tryd.ntmps35
   go_wp2
   go_ret2
   exact ⟨sqE, sqW⟩
  ·
   rw [if_neg c3] at H
   have c3b0 := decide_eq_false c3
   clear c3
   simp only [Option.some.injEq, Prod.mk.injEq] at H
   obtain ⟨rfl, rfl⟩ := H
   go_enter Tryd.func35, Tryd.ntmps35
   go_wp2
   go_ret2
   exact ⟨sqE, sqW⟩

/-! ### endonymref2_Order: function 17 -/
def endonymref2_Order.f (a0 : Int) (a1 : Int) : Option (Int) := (endonymref2_place.f a0).bind fun bt471 => ((endonymref2_place.f a1).bind fun bt473 => (if bt471.1 = bt473.1 then (if bt471.2 < bt473.2 then (some (-1)) else (if bt471.2 > bt473.2 then (some 1) else (some 0))) else (if bt471.1 < bt473.1 then (some (-1)) else (some 1))))
set_option maxHeartbeats 8000000 in
set_option maxRecDepth 100000 in
theorem endonymref2_Order.calls (a0 : Int) (a1 : Int) (r : Int) (w : World) (h : endonymref2_Order.f a0 a1 = some r) :
  Calls Tryd.prog 17 #[.int .u64 a0, .int .u64 a1] w fun e w' => e = .returned (.int .i64 r) ∧ Drawn0 w w' := by
 have H : ((endonymref2_place.f a0).bind fun bt471 => ((endonymref2_place.f a1).bind fun bt473 => (if bt471.1 = bt473.1 then (if bt471.2 < bt473.2 then (some (-1)) else (if bt471.2 > bt473.2 then (some 1) else (some 0))) else (if bt471.1 < bt473.1 then (some (-1)) else (some 1))))) = some r := h
 clear h
 replace H := Option.bind_eq_some_iff.mp H
 obtain ⟨⟨t471, t472⟩, A30, H⟩ := H
 try dsimp only at H
 have A3 := Aside0.mk A30
 clear A30
 replace H := Option.bind_eq_some_iff.mp H
 obtain ⟨⟨t473, t474⟩, A40, H⟩ := H
 try dsimp only at H
 have A4 := Aside0.mk A40
 clear A40
 by_cases c5 : t471 = t473
 ·
  rw [if_pos c5] at H
  have c5b0 := beq_iff_eq.mpr c5
  have c5b1 := bne_eq_false_iff_eq.mpr c5
  clear c5
  by_cases c6 : t472 < t474
  ·
   rw [if_pos c6] at H
   have c6b0 := decide_eq_true c6
   clear c6
   obtain rfl := Option.some.inj H
   go_enter Tryd.func17, Tryd.ntmps17
   go_wp2_with (first | ((with_reducible refine gate_callee (f := 35) rfl ?_); refine goesL_ (some 11) rfl rfl Tryd.func35 (by kernel_rfl) rfl #[.int .u64 a0] rfl sqA ?_; (with_reducible refine (endonymref2_place.calls a0 t471 t472 _ A3.out).mono ?_); rintro e w' ⟨rfl, ⟨nd, rfl⟩⟩; refine ⟨_, rfl, ?_⟩) | ((with_reducible refine gate_callee (f := 35) rfl ?_); refine goesL_ (some 16) rfl rfl Tryd.func35 (by kernel_rfl) rfl #[.int .u64 a1] rfl sqA ?_; (with_reducible refine (endonymref2_place.calls a1 t473 t474 _ A4.out).mono ?_); rintro e w' ⟨rfl, ⟨nd, rfl⟩⟩; refine ⟨_, rfl, ?_⟩))
   go_ret
   exact ⟨sqE, sqW⟩
  ·
   rw [if_neg c6] at H
   have c6b0 := decide_eq_false c6
   clear c6
   by_cases c7 : t472 > t474
   ·
    rw [if_pos c7] at H
    have c7b0 := decide_eq_true c7
    clear c7
    obtain rfl := Option.some.inj H
    go_enter Tryd.func17, Tryd.ntmps17
    go_wp2_with (first | ((with_reducible refine gate_callee (f := 35) rfl ?_); refine goesL_ (some 11) rfl rfl Tryd.func35 (by kernel_rfl) rfl #[.int .u64 a0] rfl sqA ?_; (with_reducible refine (endonymref2_place.calls a0 t471 t472 _ A3.out).mono ?_); rintro e w' ⟨rfl, ⟨nd, rfl⟩⟩; refine ⟨_, rfl, ?_⟩) | ((with_reducible refine gate_callee (f := 35) rfl ?_); refine goesL_ (some 16) rfl rfl Tryd.func35 (by kernel_rfl) rfl #[.int .u64 a1] rfl sqA ?_; (with_reducible refine (endonymref2_place.calls a1 t473 t474 _ A4.out).mono ?_); rintro e w' ⟨rfl, ⟨nd, rfl⟩⟩; refine ⟨_, rfl, ?_⟩))
    go_ret
    exact ⟨sqE, sqW⟩
   ·
    rw [if_neg c7] at H
    have c7b0 := decide_eq_false c7
    clear c7
    obtain rfl := Option.some.inj H
    go_enter Tryd.func17, Tryd.ntmps17
    go_wp2_with (first | ((with_reducible refine gate_callee (f := 35) rfl ?_); refine goesL_ (some 11) rfl rfl Tryd.func35 (by kernel_rfl) rfl #[.int .u64 a0] rfl sqA ?_; (with_reducible refine (endonymref2_place.calls a0 t471 t472 _ A3.out).mono ?_); rintro e w' ⟨rfl, ⟨nd, rfl⟩⟩; refine ⟨_, rfl, ?_⟩) | ((with_reducible refine gate_callee (f := 35) rfl ?_); refine goesL_ (some 16) rfl rfl Tryd.func35 (by kernel_rfl) rfl #[.int .u64 a1] rfl sqA ?_; (with_reducible refine (endonymref2_place.calls a1 t473 t474 _ A4.out).mono ?_); rintro e w' ⟨rfl, ⟨nd, rfl⟩⟩; refine ⟨_, rfl, ?_⟩))
    go_ret
    exact ⟨sqE, sqW⟩
 ·
  rw [if_neg c5] at H
  have c5b0 := beq_eq_false_iff_ne.mpr c5
  have c5b1 := bne_iff_ne.mpr c5
  by_cases c8 : t471 < t473
  ·
   rw [if_pos c8] at H
   have c8b0 := decide_eq_true c8
   clear c8
   obtain rfl := Option.some.inj H
   go_enter Tryd.func17, Tryd.ntmps17
   go_wp2_with (first | ((with_reducible refine gate_callee (f := 35) rfl ?_); refine goesL_ (some 11) rfl rfl Tryd.func35 (by kernel_rfl) rfl #[.int .u64 a0] rfl sqA ?_; (with_reducible refine (endonymref2_place.calls a0 t471 t472 _ A3.out).mono ?_); rintro e w' ⟨rfl, ⟨nd, rfl⟩⟩; refine ⟨_, rfl, ?_⟩) | ((with_reducible refine gate_callee (f := 35) rfl ?_); refine goesL_ (some 16) rfl rfl Tryd.func35 (by kernel_rfl) rfl #[.int .u64 a1] rfl sqA ?_; (with_reducible refine (endonymref2_place.calls a1 t473 t474 _ A4.out).mono ?_); rintro e w' ⟨rfl, ⟨nd, rfl⟩⟩; refine ⟨_, rfl, ?_⟩))
   go_ret
   exact ⟨sqE, sqW⟩
  ·
   rw [if_neg c8] at H
   have c8b0 := decide_eq_false c8
   clear c8
   obtain rfl := Option.some.inj H
   go_enter Tryd.func17, Tryd.ntmps17
   go_wp2_with (first | ((with_reducible refine gate_callee (f := 35) rfl ?_); refine goesL_ (some 11) rfl rfl Tryd.func35 (by kernel_rfl) rfl #[.int .u64 a0] rfl sqA ?_; (with_reducible refine (endonymref2_place.calls a0 t471 t472 _ A3.out).mono ?_); rintro e w' ⟨rfl, ⟨nd, rfl⟩⟩; refine ⟨_, rfl, ?_⟩) | ((with_reducible refine gate_callee (f := 35) rfl ?_); refine goesL_ (some 16) rfl rfl Tryd.func35 (by kernel_rfl) rfl #[.int .u64 a1] rfl sqA ?_; (with_reducible refine (endonymref2_place.calls a1 t473 t474 _ A4.out).mono ?_); rintro e w' ⟨rfl, ⟨nd, rfl⟩⟩; refine ⟨_, rfl, ?_⟩))
   go_ret
   exact ⟨sqE, sqW⟩

/-! ### endonymlaw2_WeighOrders: function 5 -/
def endonymlaw2_WeighOrders.f (k : Nat) (a0 : Int) (a1 : Int) : Option (Bool) := (endonymlaw2_told.f k).bind fun t475 => (if t475 = true then ((api_Float.f a0).bind fun t476 => ((api_Float.f a1).bind fun t477 => ((weigh_Order.f t476 t477).bind fun t478 => ((endonymref2_Order.f a0 a1).bind fun t479 => (some (t478 == t479)))))) else (some false))
theorem endonymlaw2_WeighOrders.mono : ∀ a0 a1 k, LeO (endonymlaw2_WeighOrders.f k a0 a1) (endonymlaw2_WeighOrders.f (k + 1) a0 a1) := by
 intro a0 a1 k
 unfold endonymlaw2_WeighOrders.f
 repeat' first | (with_reducible first | apply endonymlaw2_told.mono | apply LeO.refl | apply LeO.none | refine LeO.ite ?_ ?_ | refine LeO.bind ?_ (fun _ => ?_)) | apply endonymlaw2_told.mono | apply LeO.none | refine LeO.ite ?_ ?_ | refine LeO.bind ?_ (fun _ => ?_)
set_option maxHeartbeats 8000000 in
set_option maxRecDepth 100000 in
theorem endonymlaw2_WeighOrders.calls (k : Nat) (a0 : Int) (a1 : Int) (r : Bool) (w : World) (htab : Aside0 (Rm.Tab w)) (h : endonymlaw2_WeighOrders.f k a0 a1 = some r) :
  Calls Tryd.prog 5 #[.int .u64 a0, .int .u64 a1] w fun e w' => e = .returned (.bool r) ∧ Below w.heap.size w w' := by
 have HB := Aside0.mk (Below.refl w.heap.size w)
 have H : ((endonymlaw2_told.f k).bind fun t475 => (if t475 = true then ((api_Float.f a0).bind fun t476 => ((api_Float.f a1).bind fun t477 => ((weigh_Order.f t476 t477).bind fun t478 => ((endonymref2_Order.f a0 a1).bind fun t479 => (some (t478 == t479)))))) else (some false))) = some r := h
 clear h
 replace H := Option.bind_eq_some_iff.mp H
 obtain ⟨t475, A30, H⟩ := H
 try dsimp only at H
 have A3 := Aside0.mk A30
 clear A30
 by_cases c4 : t475 = true
 ·
  subst c4
  have H1 : ((api_Float.f a0).bind fun t476 => ((api_Float.f a1).bind fun t477 => ((weigh_Order.f t476 t477).bind fun t478 => ((endonymref2_Order.f a0 a1).bind fun t479 => (some (t478 == t479)))))) = some r := by rw [if_pos rfl] at H; exact H
  clear H
  have H := H1
  clear H1
  replace H := Option.bind_eq_some_iff.mp H
  obtain ⟨t476, A50, H⟩ := H
  try dsimp only at H
  have A5 := Aside0.mk A50
  clear A50
  replace H := Option.bind_eq_some_iff.mp H
  obtain ⟨t477, A60, H⟩ := H
  try dsimp only at H
  have A6 := Aside0.mk A60
  clear A60
  replace H := Option.bind_eq_some_iff.mp H
  obtain ⟨t478, A70, H⟩ := H
  try dsimp only at H
  have A7 := Aside0.mk A70
  clear A70
  replace H := Option.bind_eq_some_iff.mp H
  obtain ⟨t479, A80, H⟩ := H
  try dsimp only at H
  have A8 := Aside0.mk A80
  clear A80
  obtain rfl := Option.some.inj H
  go_enter Tryd.func5, Tryd.ntmps5
  go_wp2_with (first | ((with_reducible refine gate_callee (f := 12) rfl ?_); refine goesL_ (some 5) rfl rfl Tryd.func12 (by kernel_rfl) rfl #[] rfl sqA ?_; (with_reducible refine (endonymlaw2_told.calls k  true _ ⟨htab.out.below sqB⟩ A3.out).mono ?_); rintro e w9 ⟨rfl, hb⟩; refine ⟨_, rfl, ?_⟩; have n0_ := Aside0.mk (below_step sqB hb); clear HB; have HB := n0_; clear n0_; (try clear hb); (try clear hb2); (try clear hk); (try clear hi)) | (go_at_call 11; (with_reducible refine (api_Float.calls a0 t476 _ A5.out).mono ?_); rintro e w' ⟨rfl, ⟨nd, rfl⟩⟩) | (go_at_call 11; (with_reducible refine (api_Float.calls a1 t477 _ A6.out).mono ?_); rintro e w' ⟨rfl, ⟨nd, rfl⟩⟩) | (go_at_call 15; (with_reducible refine (weigh_Order.calls t476 t477 t478 _ A7.out).mono ?_); rintro e w' ⟨rfl, ⟨nd, rfl⟩⟩) | (go_at_call 17; (with_reducible refine (endonymref2_Order.calls a0 a1 t479 _ A8.out).mono ?_); rintro e w' ⟨rfl, ⟨nd, rfl⟩⟩))
  go_ret
  exact ⟨sqE', sqB⟩
 ·
  replace c4 := Bool.eq_false_iff.mpr c4
  subst c4
  have H1 : (some false) = some r := by rw [if_neg (show ¬ (false = true) by decide)] at H; exact H
  clear H
  have H := H1
  clear H1
  obtain rfl := Option.some.inj H
  go_enter Tryd.func5, Tryd.ntmps5
  go_wp2_with (first | ((with_reducible refine gate_callee (f := 12) rfl ?_); refine goesL_ (some 5) rfl rfl Tryd.func12 (by kernel_rfl) rfl #[] rfl sqA ?_; (with_reducible refine (endonymlaw2_told.calls k  false _ ⟨htab.out.below sqB⟩ A3.out).mono ?_); rintro e w10 ⟨rfl, hb⟩; refine ⟨_, rfl, ?_⟩; have n0_ := Aside0.mk (below_step sqB hb); clear HB; have HB := n0_; clear n0_; (try clear hb); (try clear hb2); (try clear hk); (try clear hi)))
  go_ret
  exact ⟨sqE', sqB⟩

/-! ### endonymlaw2_same: function 13 -/
def endonymlaw2_same.f (a0 : Nat) (a1 : Int) : Option (Bool) := if (Go.bits .andNot .u64 a1 9223372036854775808) > 9218868437227405312 then (some (FloatKind.f64.format.order a0 a0 != some .eq)) else ((api_Bits.f a0).bind fun t480 => (some (t480 == a1)))
set_option maxHeartbeats 8000000 in
set_option maxRecDepth 100000 in
theorem endonymlaw2_same.calls (a0 : Nat) (a1 : Int) (r : Bool) (w : World) (h : endonymlaw2_same.f a0 a1 = some r) :
  Calls Tryd.prog 13 #[.float .f64 a0, .int .u64 a1] w fun e w' => e = .returned (.bool r) ∧ Drawn0 w w' := by
 have H : (if (Go.bits .andNot .u64 a1 9223372036854775808) > 9218868437227405312 then (some (FloatKind.f64.format.order a0 a0 != some .eq)) else ((api_Bits.f a0).bind fun t480 => (some (t480 == a1)))) = some r := h
 clear h
 by_cases c3 : (Go.bits .andNot .u64 a1 9223372036854775808) > 9218868437227405312
 ·
  rw [if_pos c3] at H
  have c3b0 := decide_eq_true c3
  clear c3
  obtain rfl := Option.some.inj H
  go_enter Tryd.func13, Tryd.ntmps13
  go_wp2
  go_ret
  exact ⟨sqE, sqW⟩
 ·
  rw [if_neg c3] at H
  have c3b0 := decide_eq_false c3
  clear c3
  replace H := Option.bind_eq_some_iff.mp H
  obtain ⟨t480, A40, H⟩ := H
  try dsimp only at H
  have A4 := Aside0.mk A40
  clear A40
  obtain rfl := Option.some.inj H
  go_enter Tryd.func13, Tryd.ntmps13
  go_wp2_with (first | ((with_reducible refine gate_callee (f := 16) rfl ?_); refine goesL_ (some 12) rfl rfl Tryd.func16 (by kernel_rfl) rfl #[.float .f64 a0] rfl sqA ?_; (with_reducible refine (api_Bits.calls a0 t480 _ A4.out).mono ?_); rintro e w' ⟨rfl, ⟨nd, rfl⟩⟩; refine ⟨_, rfl, ?_⟩))
  go_ret
  exact ⟨sqE, sqW⟩

/-! ### endonymref2_Parts: function 28 -/
def endonymref2_Parts.f (a0 : Int) : Option (Int × Int) := if (wrap64 (Go.bits .and .u64 (a0 / 4503599627370496) 2047)) = 0 then (some (Go.bits .and .u64 a0 4503599627370495, (-1074))) else (some (Go.bits .or .u64 (Go.bits .and .u64 a0 4503599627370495) 4503599627370496, wrap64 ((wrap64 (Go.bits .and .u64 (a0 / 4503599627370496) 2047)) - 1075)))
set_option maxHeartbeats 8000000 in
set_option maxRecDepth 100000 in
theorem endonymref2_Parts.calls (a0 : Int) (r1 : Int) (r2 : Int) (w : World) (h : endonymref2_Parts.f a0 = some (r1, r2)) :
  Calls Tryd.prog 28 #[.int .u64 a0] w fun e w' => e = .returned (.tuple #[.int .u64 r1, .int .i64 r2]) ∧ Drawn0 w w' := by
 have H : (if (wrap64 (Go.bits .and .u64 (a0 / 4503599627370496) 2047)) = 0 then (some (Go.bits .and .u64 a0 4503599627370495, (-1074))) else (some (Go.bits .or .u64 (Go.bits .and .u64 a0 4503599627370495) 4503599627370496, wrap64 ((wrap64 (Go.bits .and .u64 (a0 / 4503599627370496) 2047)) - 1075)))) = some (r1, r2) := h
 clear h
 by_cases c2 : (wrap64 (Go.bits .and .u64 (a0 / 4503599627370496) 2047)) = 0
 ·
  rw [if_pos c2] at H
  have c2b0 := beq_iff_eq.mpr c2
  have c2b1 := bne_eq_false_iff_eq.mpr c2
  clear c2
  simp only [Option.some.injEq, Prod.mk.injEq] at H
  obtain ⟨rfl, rfl⟩ := H
  go_enter Tryd.func28, Tryd.ntmps28
  go_wp2
  go_ret2
  exact ⟨sqE, sqW⟩
 ·
  rw [if_neg c2] at H
  have c2b0 := beq_eq_false_iff_ne.mpr c2
  have c2b1 := bne_iff_ne.mpr c2
  simp only [Option.some.injEq, Prod.mk.injEq] at H
  obtain ⟨rfl, rfl⟩ := H
  go_enter Tryd.func28, Tryd.ntmps28
  go_wp2
  go_ret2
  exact ⟨sqE, sqW⟩

/-! ### endonymref2_Of: function 29 -/
def endonymref2_Of.l0 : Nat → Int → List Int → Option (List Int)
 | 0, _, _ => none
 | k + 1, x0, x3 => if x0 > 0 then (if x3.length < 35184372088832 then (endonymref2_Of.l0 k (x0 / 65536) (x3 ++ [(Go.bits .and .u64 x0 65535) % 4294967296])) else (none)) else (some x3)
def endonymref2_Of.f (k : Nat) (a0 : Int) : Option (List Int) := endonymref2_Of.l0 k a0 ([] : List Int)
theorem endonymref2_Of.mono_l : ∀ k, (∀ y0 y1, LeO (endonymref2_Of.l0 k y0 y1) (endonymref2_Of.l0 (k + 1) y0 y1))
 | 0 => fun _ _ r h => by simp [endonymref2_Of.l0] at h
 | k + 1 => by
  have ih0 := endonymref2_Of.mono_l k
  ·
   intro y0 y1
   unfold endonymref2_Of.l0
   repeat' first | (with_reducible first | apply ih0 | apply LeO.refl | apply LeO.none | refine LeO.ite ?_ ?_ | refine LeO.bind ?_ (fun _ => ?_)) | apply ih0 | apply LeO.none | refine LeO.ite ?_ ?_ | refine LeO.bind ?_ (fun _ => ?_)
theorem endonymref2_Of.mono : ∀ a0 k, LeO (endonymref2_Of.f k a0) (endonymref2_Of.f (k + 1) a0) := by
 intro a0 k
 have ih0 := endonymref2_Of.mono_l k
 unfold endonymref2_Of.f
 repeat' first | (with_reducible first | apply ih0 | apply LeO.refl | apply LeO.none | refine LeO.ite ?_ ?_ | refine LeO.bind ?_ (fun _ => ?_)) | apply ih0 | apply LeO.none | refine LeO.ite ?_ ?_ | refine LeO.bind ?_ (fun _ => ?_)
set_option maxHeartbeats 8000000 in
set_option maxRecDepth 100000 in
theorem endonymref2_Of.calls (k : Nat) (a0 : Int) (r : List Int) (w : World) (h : endonymref2_Of.f k a0 = some r) :
  Calls Tryd.prog 29 #[.int .u64 a0] w fun e w' => ∃ v0_ : Value, e = .returned (v0_) ∧ Kd.R (Kd.int .u32) 84 w' w.heap.size (fun _ => True) v0_ r ∧ Below w.heap.size w w' := by
 have HB := Aside0.mk (Below.refl w.heap.size w)
 have H : (endonymref2_Of.l0 k a0 ([] : List Int)) = some r := h
 clear h
 have H' := Aside0.mk H
 clear H
 go_enter Tryd.func29, Tryd.ntmps29
 go_wp2
 go_loopg [0, 3] k (fun kq v0 v3 w' => ∃ (x0_1 : Int) (x3_1 : List Int), v0 = .int .u64 x0_1 ∧ Aside0 (endonymref2_Of.l0 kq x0_1 x3_1 = some r) ∧ Aside0 (kq ≤ k) ∧ Aside0 (Kd.R (Kd.int .u32) 84 w' w.heap.size (fun _ => True) v3 x3_1) ∧ Aside0 (Below w.heap.size w w'))
 case atStart => exact ⟨(a0), (([] : List Int)), sqE, H', ⟨Nat.le_refl _⟩, ⟨by first | exact Kd.R_nil _ _ _ _ _ | exact Kd.N_nil _ _ _ _ _ | exact Kd.V_nil _ _ _ _ _ | exact Kd.Q_nil _ _ _ _ _ | exact Kd.S_nil _ _ _ _ _⟩, ⟨sqB⟩⟩
 case round =>
  clear H'
  obtain ⟨x0_1, x3_1, rfl, HA, HK1, HO_3, HB⟩ := hrel
  cases gk with
  | zero => exact absurd HA.out (by simp [endonymref2_Of.l0])
  | succ k1 =>
   have H := HA.out
   clear HA
   simp only [endonymref2_Of.l0] at H
   by_cases c2 : x0_1 > 0
   ·
    rw [if_pos c2] at H
    have c2b0 := decide_eq_true c2
    clear c2
    by_cases c3 : x3_1.length < 35184372088832
    ·
     rw [if_pos c3] at H
     have LMc3 := Aside0.mk c3
     clear c3
     obtain ⟨y481, hy481⟩ : ∃ y_ : List Int, y_ = (x3_1 ++ [(Go.bits .and .u64 x0_1 65535) % 4294967296]) := ⟨_, rfl⟩
     replace H : (endonymref2_Of.l0 k1 (x0_1 / 65536) y481) = some r := by first | (rw [hy481]; with_reducible exact H) | (have H2_ := (Option.bind_some _ _).symm.trans H; rw [hy481]; with_reducible exact H2_) | (have H2_ := (Option.bind_some _ _).symm.trans H; with_reducible exact H2_) | with_reducible exact H | (rw [hy481]; exact H) | exact H
     have Ny481 := Aside0.mk hy481
     clear hy481
     have H' := Aside0.mk H
     clear H
     go_wp2_with (first | ((with_reducible refine gate_builtin (b := .append) (xs := #[.tmp 6, .tmp 10]) rfl ?_); at_builtin; refine Kd.R_append (Kd.int .u32) (w0 := w) w.heap.size rfl (.tmp 6) (.tmp 10) 55 84 (.int .u32 0) 4 rfl Tryd.underlying55 info84 rfl (by decide) (by omega) u3 x3_1 ((Go.bits .and .u64 x0_1 65535) % 4294967296) [.int .u32 ((Go.bits .and .u64 x0_1 65535) % 4294967296)] (fun _ => True) (fun _ => False) rfl rfl ?aP (fun _ hk => hk.elim) ?aF ?aO ?aB ?aS ?aL ?_; (case aP => exact rfl); (case aB => exact sqB); (case aF => exact (fun _ _ => trivial)); (case aO => exact (sqR HO_3.out)); (case aS => exact (below_size sqB)); (case aL => have := LMc3.out; omega); intro v482 w4 ho hb hg hat; rw [← Ny481.out] at ho; have n0_ := Aside0.mk (hb); have n1_ := Aside0.mk (ho); clear HB; clear HO_3; have HB := n0_; have HO483 := n1_; clear n0_ n1_; clear ho hb hg hat))
     go_roundg k1
     case measure => have := HK1.out; omega
     case rel => exact ⟨(x0_1 / 65536), (y481), sqE, H', ⟨by have := HK1.out; omega⟩, ⟨sqR HO483.out⟩, ⟨sqB⟩⟩
    ·
     rw [if_neg c3] at H
     exact absurd H (by simp)
   ·
    rw [if_neg c2] at H
    have c2b0 := decide_eq_false c2
    clear c2
    obtain rfl := Option.some.inj H
    go_wp2
    go_ret
    exact ⟨_, sqE', sqR HO_3.out, sqB⟩

/-! ### endonymref2_trim: function 81 -/
def endonymref2_trim.l0 : Nat → List Int → Int → Option (List Int)
 | 0, _, _ => none
 | k + 1, x0, x3 => if x3 > 0 then (if 0 ≤ (wrap64 (x3 - 1)) then (if (wrap64 (x3 - 1)) < (x0.length : Int) then (if (rd x0 (wrap64 (x3 - 1))) = 0 then (endonymref2_trim.l0 k x0 (wrap64 (x3 - 1))) else (if 0 ≤ x3 then (if x3 ≤ (x0.length : Int) then (some (x0.take (x3 : Int).toNat)) else (none)) else (none))) else (none)) else (none)) else (if 0 ≤ x3 then (if x3 ≤ (x0.length : Int) then (some (x0.take (x3 : Int).toNat)) else (none)) else (none))
def endonymref2_trim.f (k : Nat) (l0 : List Int) : Option (List Int) := endonymref2_trim.l0 k l0 (l0.length : Int)
theorem endonymref2_trim.mono_l : ∀ k, (∀ y0 y1, LeO (endonymref2_trim.l0 k y0 y1) (endonymref2_trim.l0 (k + 1) y0 y1))
 | 0 => fun _ _ r h => by simp [endonymref2_trim.l0] at h
 | k + 1 => by
  have ih0 := endonymref2_trim.mono_l k
  ·
   intro y0 y1
   unfold endonymref2_trim.l0
   repeat' first | (with_reducible first | apply ih0 | apply LeO.refl | apply LeO.none | refine LeO.ite ?_ ?_ | refine LeO.bind ?_ (fun _ => ?_)) | apply ih0 | apply LeO.none | refine LeO.ite ?_ ?_ | refine LeO.bind ?_ (fun _ => ?_)
theorem endonymref2_trim.mono : ∀ a0 k, LeO (endonymref2_trim.f k a0) (endonymref2_trim.f (k + 1) a0) := by
 intro a0 k
 have ih0 := endonymref2_trim.mono_l k
 unfold endonymref2_trim.f
 repeat' first | (with_reducible first | apply ih0 | apply LeO.refl | apply LeO.none | refine LeO.ite ?_ ?_ | refine LeO.bind ?_ (fun _ => ?_)) | apply ih0 | apply LeO.none | refine LeO.ite ?_ ?_ | refine LeO.bind ?_ (fun _ => ?_)
set_option maxHeartbeats 8000000 in
set_option maxRecDepth 100000 in
theorem endonymref2_trim.calls (k : Nat) (P0_ : Nat → Prop) (u9000_ : Value) (l0 : List Int) (r : List Int) (w0 w : World) (hB : Below w0.heap.size w0 w) (ho0 : Kd.R (Kd.int .u32) 84 w w0.heap.size P0_ u9000_ l0) (h : endonymref2_trim.f k l0 = some r) :
  Calls Tryd.prog 81 #[u9000_] w fun e w' => ∃ v0_ : Value, e = .returned (v0_) ∧ Kd.R (Kd.int .u32) 84 w' w0.heap.size (fun k_ => (P0_ k_ ∨ w.heap.size ≤ k_)) v0_ r ∧ Below w0.heap.size w0 w' ∧ Kept w w' (fun k_ => P0_ k_) := by
 have HO0 := Aside0.mk (show Kd.R (Kd.int .u32) 84 w w0.heap.size (fun k_ => (P0_ k_ ∨ w.heap.size ≤ k_)) u9000_ l0 from Kd.R_mono ho0 (fun k_ hk => (.inl hk)))
 have HK := Aside0.mk (Kept.refl w (fun k_ => P0_ k_))
 have HW0 := Aside0.mk hB.size
 have HB := Aside0.mk hB
 clear hB
 have H : (endonymref2_trim.l0 k l0 (l0.length : Int)) = some r := h
 clear h
 have H' := Aside0.mk H
 clear H
 obtain ⟨Ao2, co2, eo2⟩ := Kd.R_slice HO0.out
 subst eo2
 go_enter Tryd.func81, Tryd.ntmps81
 go_wp2
 go_loopg [3] k (fun kq v3 w' => ∃ (x3_1 : Int), v3 = .int .i64 x3_1 ∧ Aside0 (endonymref2_trim.l0 kq l0 x3_1 = some r) ∧ Aside0 (kq ≤ k) ∧ Aside0 (Kd.R (Kd.int .u32) 84 w' w0.heap.size (fun k_ => (P0_ k_ ∨ w.heap.size ≤ k_)) (.slice Ao2 l0.length co2) l0) ∧ Aside0 (Kept w w' (fun k_ => P0_ k_)) ∧ Aside0 (Below w0.heap.size w0 w'))
 case atStart => exact ⟨((l0.length : Int)), sqE, H', ⟨Nat.le_refl _⟩, ⟨sqR HO0.out⟩, ⟨by repeat (first | (with_reducible first | exact HK.out | apply Kept.alloc | apply Kept.drewN | apply Kept.drew) | exact HK.out)⟩, ⟨sqB⟩⟩
 case round =>
  clear H'
  try clear p2
  obtain ⟨x3_1, rfl, HA, HK1, HO_0, HK, HB⟩ := hrel
  cases gk with
  | zero => exact absurd HA.out (by simp [endonymref2_trim.l0])
  | succ k1 =>
   have H := HA.out
   clear HA
   simp only [endonymref2_trim.l0] at H
   by_cases c3 : x3_1 > 0
   ·
    rw [if_pos c3] at H
    have c3b0 := decide_eq_true c3
    clear c3
    obtain ⟨ji4, hji4⟩ : ∃ j_ : Int, (wrap64 (x3_1 - 1)) = j_ := ⟨_, rfl⟩
    replace H : (if 0 ≤ (ji4) then (if (ji4) < (l0.length : Int) then (if (rd l0 (ji4)) = 0 then (endonymref2_trim.l0 k1 l0 ji4) else (if 0 ≤ x3_1 then (if x3_1 ≤ (l0.length : Int) then (some (l0.take (x3_1 : Int).toNat)) else (none)) else (none))) else (none)) else (none)) = some r := by first | (rw [hji4] at H; exact H) | (simp only [hji4] at H ⊢; exact H)
    have hji4w : (IntKind.i64.wrap (x3_1 - 1)) = ji4 := (i64_w _).trans hji4
    by_cases c5 : 0 ≤ (ji4)
    ·
     rw [if_pos c5] at H
     have c5b0 := decide_eq_true c5
     clear c5
     by_cases c6 : (ji4) < (l0.length : Int)
     ·
      rw [if_pos c6] at H
      have c6b0 := decide_eq_true c6
      clear c6
      by_cases c7 : (rd l0 (ji4)) = 0
      ·
       rw [if_pos c7] at H
       have c7b0 := beq_iff_eq.mpr c7
       have c7b1 := bne_eq_false_iff_eq.mpr c7
       clear c7
       have H' := Aside0.mk H
       clear H
       have p484 : 0 ≤ ((ji4) : Int) := sqD
       have q484 : (ji4) < (l0.length : Int) := sqD
       obtain ⟨ad484, e484, hx484_0⟩ := Kd.at_int (Kd.R_reads' HO_0.out).2.2 (ji4) p484 q484
       cases e484
       replace p484 := eq_true p484
       replace q484 := eq_true q484
       go_wp2
       go_roundg k1
       case measure => have := HK1.out; omega
       case rel => exact ⟨(ji4), (by first | rfl | (simp; done) | (simp only [← hji4] <;> (first | rfl | simp)) | (simp [*]; done)), H', ⟨by have := HK1.out; omega⟩, ⟨sqR HO_0.out⟩, ⟨by repeat (first | (with_reducible first | exact HK.out | apply Kept.alloc | apply Kept.drewN | apply Kept.drew) | exact HK.out)⟩, ⟨sqB⟩⟩
      ·
       rw [if_neg c7] at H
       have c7b0 := beq_eq_false_iff_ne.mpr c7
       have c7b1 := bne_iff_ne.mpr c7
       by_cases c8 : 0 ≤ x3_1
       ·
        rw [if_pos c8] at H
        have c8b0 := eq_true c8
        have c8b1 := decide_eq_true c8
        clear c8
        by_cases c9 : x3_1 ≤ (l0.length : Int)
        ·
         rw [if_pos c9] at H
         have c9b0 := eq_true c9
         have c9b1 := decide_eq_true c9
         clear c9
         obtain ⟨y485, hy485⟩ : ∃ y_ : List Int, y_ = (l0.take (x3_1 : Int).toNat) := ⟨_, rfl⟩
         replace H : (some y485) = some r := by first | (rw [hy485]; with_reducible exact H) | (have H2_ := (Option.bind_some _ _).symm.trans H; rw [hy485]; with_reducible exact H2_) | (have H2_ := (Option.bind_some _ _).symm.trans H; with_reducible exact H2_) | with_reducible exact H | (rw [hy485]; exact H) | exact H
         have Ny485 := Aside0.mk hy485
         clear hy485
         obtain rfl := Option.some.inj H
         have p484 : 0 ≤ ((ji4) : Int) := sqD
         have q484 : (ji4) < (l0.length : Int) := sqD
         obtain ⟨ad484, e484, hx484_0⟩ := Kd.at_int (Kd.R_reads' HO_0.out).2.2 (ji4) p484 q484
         cases e484
         replace p484 := eq_true p484
         replace q484 := eq_true q484
         have q10 : (x3_1 : Int) ≤ ((l0.length : Int) : Int) := sqD
         obtain ⟨i010, hi010, _, hsz10, _⟩ := info_parts info84
         have hcut10 := cut_to (P := Tryd.prog) 55 84 .i64 Tryd.underlying55 hi010 (some ad484) l0.length co2 x3_1 sqD q10 (Kd.R_reads' HO_0.out).2.1
         have hr10 := Kd.R_take (m := (x3_1 : Int).toNat) HO_0.out (by omega)
         have hy10 : y485.length = (x3_1 : Int).toNat := (by rw [Ny485.out, List.length_take]; omega)
         rw [← Ny485.out] at hr10
         rw [← hy10] at hr10 hcut10
         clear hy10 hi010 hsz10 HO_0
         have HO487 := Aside0.mk hr10
         clear hr10
         replace q10 := eq_true q10
         go_wp2
         go_ret
         exact ⟨_, by first | rfl | (simp [errW_none, errW_some] <;> rfl) | (simp only [← hji4]; first | rfl | (simp [errW_none, errW_some] <;> rfl)) | (simp [*, errW_none, errW_some] <;> rfl), sqR HO487.out, sqB, by repeat (first | (with_reducible first | exact HK.out | apply Kept.alloc | apply Kept.drewN | apply Kept.drew) | exact HK.out)⟩
        ·
         rw [if_neg c9] at H
         exact absurd H (by simp)
       ·
        rw [if_neg c8] at H
        exact absurd H (by simp)
     ·
      rw [if_neg c6] at H
      exact absurd H (by simp)
    ·
     rw [if_neg c5] at H
     exact absurd H (by simp)
   ·
    rw [if_neg c3] at H
    have c3b0 := decide_eq_false c3
    clear c3
    by_cases c11 : 0 ≤ x3_1
    ·
     rw [if_pos c11] at H
     have c11b0 := eq_true c11
     have c11b1 := decide_eq_true c11
     clear c11
     by_cases c12 : x3_1 ≤ (l0.length : Int)
     ·
      rw [if_pos c12] at H
      have c12b0 := eq_true c12
      have c12b1 := decide_eq_true c12
      clear c12
      obtain ⟨y488, hy488⟩ : ∃ y_ : List Int, y_ = (l0.take (x3_1 : Int).toNat) := ⟨_, rfl⟩
      replace H : (some y488) = some r := by first | (rw [hy488]; with_reducible exact H) | (have H2_ := (Option.bind_some _ _).symm.trans H; rw [hy488]; with_reducible exact H2_) | (have H2_ := (Option.bind_some _ _).symm.trans H; with_reducible exact H2_) | with_reducible exact H | (rw [hy488]; exact H) | exact H
      have Ny488 := Aside0.mk hy488
      clear hy488
      obtain rfl := Option.some.inj H
      have q13 : (x3_1 : Int) ≤ ((l0.length : Int) : Int) := sqD
      obtain ⟨i013, hi013, _, hsz13, _⟩ := info_parts info84
      have hcut13 := cut_to (P := Tryd.prog) 55 84 .i64 Tryd.underlying55 hi013 Ao2 l0.length co2 x3_1 sqD q13 (Kd.R_reads' HO_0.out).2.1
      have hr13 := Kd.R_take (m := (x3_1 : Int).toNat) HO_0.out (by omega)
      have hy13 : y488.length = (x3_1 : Int).toNat := (by rw [Ny488.out, List.length_take]; omega)
      rw [← Ny488.out] at hr13
      rw [← hy13] at hr13 hcut13
      clear hy13 hi013 hsz13 HO_0
      have HO490 := Aside0.mk hr13
      clear hr13
      replace q13 := eq_true q13
      go_wp2
      go_ret
      exact ⟨_, sqE', sqR HO490.out, sqB, by repeat (first | (with_reducible first | exact HK.out | apply Kept.alloc | apply Kept.drewN | apply Kept.drew) | exact HK.out)⟩
     ·
      rw [if_neg c12] at H
      exact absurd H (by simp)
    ·
     rw [if_neg c11] at H
     exact absurd H (by simp)

end Go.Proofs.YtfmjdoofopamkaaDoor.W
