import Derived.Test.YtfmjdoofopamkaaGreatDoorWx0
import Derived.Test.YtfmjdoofopamkaaGreatDoorWx1
import Derived.Test.YtfmjdoofopamkaaGreatDoorWx3
import Derived.Test.YtfmjdoofopamkaaGreatDoorWx4
import Derived.Test.YtfmjdoofopamkaaGreatDoorWx5
import Derived.Test.YtfmjdoofopamkaaGreatDoorWx6
namespace Go.Proofs.YtfmjdoofopamkaaGreatDoor.W
open Go.RowKit Go.Proofs.YtfmjdoofopamkaaGreatDoorW.PrintWords Go.Proofs.YtfmjdoofopamkaaGreatDoorW.PrintLast Go.Proofs.YtfmjdoofopamkaaGreatDoorW.PrintMore
set_option maxHeartbeats 8000000
set_option maxRecDepth 100000
attribute [local go_sem] max2_int min2_int max_two min_two max_three min_three max_four min_four
set_option linter.unusedVariables false
set_option linter.unusedSimpArgs false
def math_Log.f (a0 : Nat) : Option (Nat) := (Rm.archLogP a0).bind fun t304 => (some t304)
theorem math_Log.calls (a0 : Nat) (r : Nat) (w : World) (h : math_Log.f a0 = some r) :
  Calls Tryz.prog 94 #[.float .f64 a0] w fun e w' => e = .returned (.float .f64 r) ∧ Drawn0 w w' := by
 have H : ((Rm.archLogP a0).bind fun t304 => (some t304)) = some r := h
 clear h
 replace H := Option.bind_eq_some_iff.mp H
 obtain ⟨t304, A20, H⟩ := H
 try dsimp only at H
 have hf3 := fun w_ : World => Rm.x_archLog a0 t304 A20 w_
 clear A20
 obtain rfl := Option.some.inj H
 go_enter Tryz.func94, Tryz.ntmps94
 go_wp2
 go_ret
 exact ⟨sqE, sqW⟩
def math_log10.f (a0 : Nat) : Option (Nat) := (math_Log.f a0).bind fun t305 => ((floatBits .mul .f64 t305 (4601495173785380110 : Nat)).bind fun t306 => (some t306))
theorem math_log10.calls (a0 : Nat) (r : Nat) (w : World) (h : math_log10.f a0 = some r) :
  Calls Tryz.prog 70 #[.float .f64 a0] w fun e w' => e = .returned (.float .f64 r) ∧ Drawn0 w w' := by
 have H : ((math_Log.f a0).bind fun t305 => ((floatBits .mul .f64 t305 (4601495173785380110 : Nat)).bind fun t306 => (some t306))) = some r := h
 clear h
 obtain ⟨t305, A2, H⟩ := sqO H
 try dsimp only at H
 replace H := Option.bind_eq_some_iff.mp H
 obtain ⟨t306, A30, H⟩ := H
 try dsimp only at H
 have hf4 : ∀ w_ : World, Sem.run Tryz.prog (binOp .mul 22 (.float .f64 t305) (.float .f64 (4601495173785380110 : Nat))) w_ = .ok (.float .f64 t306) w_ := fun w_ => run_float_arith w_ .mul 22 .f64 t305 (4601495173785380110 : Nat) t306 A30
 clear A30
 obtain rfl := Option.some.inj H
 go_enter Tryz.func70, Tryz.ntmps70
 go_wp2_with (first | ((with_reducible refine gate_callee (f := 94) rfl ?_); refine goesL_ (some 4) rfl rfl Tryz.func94 (by kernel_rfl) rfl #[.float .f64 a0] rfl sqA ?_; (with_reducible refine (math_Log.calls a0 t305 _ A2.out).mono ?_); rintro e w' ⟨rfl, ⟨nd, rfl⟩⟩; refine ⟨_, rfl, ?_⟩))
 go_ret
 exact ⟨sqE, sqW⟩
def math_Log10.f (a0 : Nat) : Option (Nat) := (math_log10.f a0).bind fun t307 => (some t307)
theorem math_Log10.calls (a0 : Nat) (r : Nat) (w : World) (h : math_Log10.f a0 = some r) :
  Calls Tryz.prog 39 #[.float .f64 a0] w fun e w' => e = .returned (.float .f64 r) ∧ Drawn0 w w' := by
 have H : ((math_log10.f a0).bind fun t307 => (some t307)) = some r := h
 clear h
 obtain ⟨t307, A2, H⟩ := sqO H
 try dsimp only at H
 obtain rfl := Option.some.inj H
 go_enter Tryz.func39, Tryz.ntmps39
 go_wp2_with (first | ((with_reducible refine gate_callee (f := 70) rfl ?_); refine goesL_ (some 6) rfl rfl Tryz.func70 (by kernel_rfl) rfl #[.float .f64 a0] rfl sqA ?_; (with_reducible refine (math_log10.calls a0 t307 _ A2.out).mono ?_); rintro e w' ⟨rfl, ⟨nd, rfl⟩⟩; refine ⟨_, rfl, ?_⟩))
 go_ret
 exact ⟨sqE, sqW⟩
def weigh_parts.f (k : Nat) (a0 : Nat) : Option (Int × Int) := (math_Abs.f a0).bind fun t308 => ((math_Frexp.f k t308).bind fun bt309 => ((math_Ldexp.f bt309.1 53).bind fun t311 => ((floatToIntVal .f64 t311 .u64).bind fun t312 => (some (t312, wrap64 (bt309.2 - 53))))))
theorem weigh_parts.mono : ∀ a0 k, LeO (weigh_parts.f k a0) (weigh_parts.f (k + 1) a0) := by
 intro a0 k
 unfold weigh_parts.f
 repeat' first | (with_reducible first | apply math_Frexp.mono | apply LeO.refl | apply LeO.none | refine LeO.ite ?_ ?_ | refine LeO.bind ?_ (fun _ => ?_)) | apply LeO.none | refine LeO.ite ?_ ?_ | refine LeO.bind ?_ (fun _ => ?_)
theorem weigh_parts.calls (k : Nat) (a0 : Nat) (r1 : Int) (r2 : Int) (w : World) (h : weigh_parts.f k a0 = some (r1, r2)) :
  Calls Tryz.prog 101 #[.float .f64 a0] w fun e w' => e = .returned (.tuple #[.int .u64 r1, .int .i64 r2]) ∧ Drawn0 w w' := by
 have H : ((math_Abs.f a0).bind fun t308 => ((math_Frexp.f k t308).bind fun bt309 => ((math_Ldexp.f bt309.1 53).bind fun t311 => ((floatToIntVal .f64 t311 .u64).bind fun t312 => (some (t312, wrap64 (bt309.2 - 53))))))) = some (r1, r2) := h
 clear h
 obtain ⟨t308, A2, H⟩ := sqO H
 try dsimp only at H
 obtain ⟨⟨t309, t310⟩, A3, H⟩ := sqO H
 try dsimp only at H
 obtain ⟨t311, A4, H⟩ := sqO H
 try dsimp only at H
 replace H := Option.bind_eq_some_iff.mp H
 obtain ⟨t312, A50, H⟩ := H
 try dsimp only at H
 have hf6 : ∀ w_ : World, Sem.run Tryz.prog (convert 22 26 (.float .f64 t311)) w_ = .ok (.int .u64 t312) w_ := fun w_ => run_convert_float_int w_ 22 26 .f64 .u64 t311 t312 (by rw [Tryz.underlying22]; rfl) Tryz.underlying26 A50
 clear A50
 simp only [Option.some.injEq, Prod.mk.injEq] at H
 obtain ⟨rfl, rfl⟩ := H
 go_enter Tryz.func101, Tryz.ntmps101
 go_wp2_with (first | ((with_reducible refine gate_callee (f := 59) rfl ?_); refine goesL_ (some 7) rfl rfl Tryz.func59 (by kernel_rfl) rfl #[.float .f64 a0] rfl sqA ?_; (with_reducible refine (math_Abs.calls a0 t308 _ A2.out).mono ?_); rintro e w' ⟨rfl, ⟨nd, rfl⟩⟩; refine ⟨_, rfl, ?_⟩) | ((with_reducible refine gate_callee (f := 110) rfl ?_); refine goesL_ (some 8) rfl rfl Tryz.func110 (by kernel_rfl) rfl #[.float .f64 t308] rfl sqA ?_; (with_reducible refine (math_Frexp.calls k t308 t309 t310 _ A3.out).mono ?_); rintro e w' ⟨rfl, ⟨nd, rfl⟩⟩; refine ⟨_, rfl, ?_⟩) | ((with_reducible refine gate_callee (f := 56) rfl ?_); refine goesL_ (some 12) rfl rfl Tryz.func56 (by kernel_rfl) rfl #[.float .f64 t309, .int .i64 53] rfl sqA ?_; (with_reducible refine (math_Ldexp.calls t309 53 t311 _ A4.out).mono ?_); rintro e w' ⟨rfl, ⟨nd, rfl⟩⟩; refine ⟨_, rfl, ?_⟩))
 go_ret2
 exact ⟨sqE, sqW⟩
def weigh_fraction.f (k : Nat) (a0 : Nat) (a1 : Int) : Option (List Int × List Int) := (weigh_parts.f k a0).bind fun bt313 => ((weigh_natOf.f k bt313.1).bind fun t315 => ((weigh_nat_ten.f k t315 (wrap64 (-a1))).bind fun t318 => ((weigh_nat_up.f k t318 bt313.2).bind fun t321 => ((weigh_natOf.f k 1).bind fun t324 => ((weigh_nat_ten.f k t324 a1).bind fun t327 => ((weigh_nat_up.f k t327 (wrap64 (-bt313.2))).bind fun t330 => (some (t321, t330))))))))
theorem weigh_fraction.mono : ∀ a0 a1 k, LeO (weigh_fraction.f k a0 a1) (weigh_fraction.f (k + 1) a0 a1) := by
 intro a0 a1 k
 unfold weigh_fraction.f
 repeat' first | (with_reducible first | apply weigh_natOf.mono | apply weigh_nat_ten.mono | apply weigh_nat_up.mono | apply weigh_parts.mono | apply LeO.refl | apply LeO.none | refine LeO.ite ?_ ?_ | refine LeO.bind ?_ (fun _ => ?_)) | apply LeO.none | refine LeO.ite ?_ ?_ | refine LeO.bind ?_ (fun _ => ?_)
theorem weigh_fraction.calls (k : Nat) (a0 : Nat) (a1 : Int) (r1 : List Int) (r2 : List Int) (w : World) (h : weigh_fraction.f k a0 a1 = some (r1, r2)) :
  Calls Tryz.prog 95 #[.float .f64 a0, .int .i64 a1] w fun e w' => ∃ v0_ v1_ : Value, e = .returned (.tuple #[v0_, v1_]) ∧ Kd.V (Kd.int .u32) 83 w' w.heap.size (fun k_ => (w.heap.size ≤ k_)) v0_ r1 ∧ Kd.V (Kd.int .u32) 83 w' w.heap.size (fun k_ => (w.heap.size ≤ k_)) v1_ r2 ∧ Below w.heap.size w w' := by
 have HB := Aside0.mk (Below.refl w.heap.size w)
 have H : ((weigh_parts.f k a0).bind fun bt313 => ((weigh_natOf.f k bt313.1).bind fun t315 => ((weigh_nat_ten.f k t315 (wrap64 (-a1))).bind fun t318 => ((weigh_nat_up.f k t318 bt313.2).bind fun t321 => ((weigh_natOf.f k 1).bind fun t324 => ((weigh_nat_ten.f k t324 a1).bind fun t327 => ((weigh_nat_up.f k t327 (wrap64 (-bt313.2))).bind fun t330 => (some (t321, t330))))))))) = some (r1, r2) := h
 clear h
 obtain ⟨⟨t313, t314⟩, A3, H⟩ := sqO H
 try dsimp only at H
 obtain ⟨t315, A4, H⟩ := sqO H
 try dsimp only at H
 obtain ⟨t318, A5, H⟩ := sqO H
 try dsimp only at H
 obtain ⟨t321, A6, H⟩ := sqO H
 try dsimp only at H
 obtain ⟨t324, A7, H⟩ := sqO H
 try dsimp only at H
 obtain ⟨t327, A8, H⟩ := sqO H
 try dsimp only at H
 obtain ⟨t330, A9, H⟩ := sqO H
 try dsimp only at H
 simp only [Option.some.injEq, Prod.mk.injEq] at H
 obtain ⟨rfl, rfl⟩ := H
 go_enter Tryz.func95, Tryz.ntmps95
 go_wp2_with (first | ((with_reducible refine gate_callee (f := 101) rfl ?_); refine goesL_ (some 10) rfl rfl Tryz.func101 (by kernel_rfl) rfl #[.float .f64 a0] rfl sqA ?_; (with_reducible refine (weigh_parts.calls k a0 t313 t314 _ A3.out).mono ?_); rintro e w' ⟨rfl, ⟨nd, rfl⟩⟩; refine ⟨_, rfl, ?_⟩) | ((with_reducible refine gate_callee (f := 28) rfl ?_); refine goesL_ (some 14) rfl rfl Tryz.func28 (by kernel_rfl) rfl #[.int .u64 t313] rfl sqA ?_; (with_reducible refine (weigh_natOf.calls k t313 t315 _ A4.out).mono ?_); rintro e w10 ⟨v316, rfl, ho0, hb⟩; refine ⟨_, rfl, ?_⟩; have n0_ := Aside0.mk (Kd.V_lower (Kd.V_mono (ok' := fun k_ => (w.heap.size ≤ k_)) ho0 (fun k_ hk_ => (Nat.le_trans (below_size sqB) hk_))) (below_size sqB)); have n1_ := Aside0.mk (below_step sqB hb); clear HB; have HO317 := n0_; have HB := n1_; clear n0_ n1_; (try clear hb); (try clear hb2); (try clear hk); (try clear hi); (try clear ho0); obtain ⟨Ao11, co11, eo11⟩ := Kd.V_slice HO317.out; subst eo11) | ((with_reducible refine gate_callee (f := 29) rfl ?_); refine goesL_ (some 17) rfl rfl Tryz.func29 (by kernel_rfl) rfl #[.slice Ao11 t315.length co11, .int .i64 (wrap64 (-a1))] rfl sqA ?_; (with_reducible refine (weigh_nat_ten.calls k (fun k_ => (w.heap.size ≤ k_)) _ _ t315 (wrap64 (-a1)) t318 _ ?side1 A5.out).mono ?_); (case side1 => exact HO317.out); rintro e w12 ⟨v319, rfl, ho0, hb⟩; refine ⟨_, rfl, ?_⟩; have n0_ := Aside0.mk (Kd.V_below (sqV HO317.out) hb); have n1_ := Aside0.mk (Kd.V_lower (Kd.V_mono (ok' := fun k_ => (w.heap.size ≤ k_)) ho0 (fun k_ hk_ => Or.elim hk_ (fun hs_ => hs_) (fun hn_ => (Nat.le_trans (below_size sqB) hn_)))) (below_size sqB)); have n2_ := Aside0.mk (below_step sqB hb); clear HO317; clear HB; have HO317 := n0_; have HO320 := n1_; have HB := n2_; clear n0_ n1_ n2_; (try clear hb); (try clear hb2); (try clear hk); (try clear hi); (try clear ho0); obtain ⟨Ao13, co13, eo13⟩ := Kd.V_slice HO320.out; subst eo13) | ((with_reducible refine gate_callee (f := 52) rfl ?_); refine goesL_ (some 19) rfl rfl Tryz.func52 (by kernel_rfl) rfl #[.slice Ao13 t318.length co13, .int .i64 t314] rfl sqA ?_; (with_reducible refine (weigh_nat_up.calls k (fun k_ => (w.heap.size ≤ k_)) _ _ t318 t314 t321 _ ?side1 A6.out).mono ?_); (case side1 => exact HO320.out); rintro e w14 ⟨v322, rfl, ho0, hb⟩; refine ⟨_, rfl, ?_⟩; have n0_ := Aside0.mk (Kd.V_below (sqV HO317.out) hb); have n1_ := Aside0.mk (Kd.V_below (sqV HO320.out) hb); have n2_ := Aside0.mk (Kd.V_lower (Kd.V_mono (ok' := fun k_ => (w.heap.size ≤ k_)) ho0 (fun k_ hk_ => Or.elim hk_ (fun hs_ => hs_) (fun hn_ => (Nat.le_trans (below_size sqB) hn_)))) (below_size sqB)); have n3_ := Aside0.mk (below_step sqB hb); clear HO317; clear HO320; clear HB; have HO317 := n0_; have HO320 := n1_; have HO323 := n2_; have HB := n3_; clear n0_ n1_ n2_ n3_; (try clear hb); (try clear hb2); (try clear hk); (try clear hi); (try clear ho0)) | ((with_reducible refine gate_callee (f := 28) rfl ?_); refine goesL_ (some 20) rfl rfl Tryz.func28 (by kernel_rfl) rfl #[.int .u64 1] rfl sqA ?_; (with_reducible refine (weigh_natOf.calls k 1 t324 _ A7.out).mono ?_); rintro e w15 ⟨v325, rfl, ho0, hb⟩; refine ⟨_, rfl, ?_⟩; have n0_ := Aside0.mk (Kd.V_below (sqV HO317.out) hb); have n1_ := Aside0.mk (Kd.V_below (sqV HO320.out) hb); have n2_ := Aside0.mk (Kd.V_below (sqV HO323.out) hb); have n3_ := Aside0.mk (Kd.V_lower (Kd.V_mono (ok' := fun k_ => (w.heap.size ≤ k_)) ho0 (fun k_ hk_ => (Nat.le_trans (below_size sqB) hk_))) (below_size sqB)); have n4_ := Aside0.mk (below_step sqB hb); clear HO317; clear HO320; clear HO323; clear HB; have HO317 := n0_; have HO320 := n1_; have HO323 := n2_; have HO326 := n3_; have HB := n4_; clear n0_ n1_ n2_ n3_ n4_; (try clear hb); (try clear hb2); (try clear hk); (try clear hi); (try clear ho0); obtain ⟨Ao16, co16, eo16⟩ := Kd.V_slice HO326.out; subst eo16) | ((with_reducible refine gate_callee (f := 29) rfl ?_); refine goesL_ (some 22) rfl rfl Tryz.func29 (by kernel_rfl) rfl #[.slice Ao16 t324.length co16, .int .i64 a1] rfl sqA ?_; (with_reducible refine (weigh_nat_ten.calls k (fun k_ => (w.heap.size ≤ k_)) _ _ t324 a1 t327 _ ?side1 A8.out).mono ?_); (case side1 => exact HO326.out); rintro e w17 ⟨v328, rfl, ho0, hb⟩; refine ⟨_, rfl, ?_⟩; have n0_ := Aside0.mk (Kd.V_below (sqV HO317.out) hb); have n1_ := Aside0.mk (Kd.V_below (sqV HO320.out) hb); have n2_ := Aside0.mk (Kd.V_below (sqV HO323.out) hb); have n3_ := Aside0.mk (Kd.V_below (sqV HO326.out) hb); have n4_ := Aside0.mk (Kd.V_lower (Kd.V_mono (ok' := fun k_ => (w.heap.size ≤ k_)) ho0 (fun k_ hk_ => Or.elim hk_ (fun hs_ => hs_) (fun hn_ => (Nat.le_trans (below_size sqB) hn_)))) (below_size sqB)); have n5_ := Aside0.mk (below_step sqB hb); clear HO317; clear HO320; clear HO323; clear HO326; clear HB; have HO317 := n0_; have HO320 := n1_; have HO323 := n2_; have HO326 := n3_; have HO329 := n4_; have HB := n5_; clear n0_ n1_ n2_ n3_ n4_ n5_; (try clear hb); (try clear hb2); (try clear hk); (try clear hi); (try clear ho0); obtain ⟨Ao18, co18, eo18⟩ := Kd.V_slice HO329.out; subst eo18) | ((with_reducible refine gate_callee (f := 52) rfl ?_); refine goesL_ (some 25) rfl rfl Tryz.func52 (by kernel_rfl) rfl #[.slice Ao18 t327.length co18, .int .i64 (wrap64 (-t314))] rfl sqA ?_; (with_reducible refine (weigh_nat_up.calls k (fun k_ => (w.heap.size ≤ k_)) _ _ t327 (wrap64 (-t314)) t330 _ ?side1 A9.out).mono ?_); (case side1 => exact HO329.out); rintro e w19 ⟨v331, rfl, ho0, hb⟩; refine ⟨_, rfl, ?_⟩; have n0_ := Aside0.mk (Kd.V_below (sqV HO317.out) hb); have n1_ := Aside0.mk (Kd.V_below (sqV HO320.out) hb); have n2_ := Aside0.mk (Kd.V_below (sqV HO323.out) hb); have n3_ := Aside0.mk (Kd.V_below (sqV HO326.out) hb); have n4_ := Aside0.mk (Kd.V_below (sqV HO329.out) hb); have n5_ := Aside0.mk (Kd.V_lower (Kd.V_mono (ok' := fun k_ => (w.heap.size ≤ k_)) ho0 (fun k_ hk_ => Or.elim hk_ (fun hs_ => hs_) (fun hn_ => (Nat.le_trans (below_size sqB) hn_)))) (below_size sqB)); have n6_ := Aside0.mk (below_step sqB hb); clear HO317; clear HO320; clear HO323; clear HO326; clear HO329; clear HB; have HO317 := n0_; have HO320 := n1_; have HO323 := n2_; have HO326 := n3_; have HO329 := n4_; have HO332 := n5_; have HB := n6_; clear n0_ n1_ n2_ n3_ n4_ n5_ n6_; (try clear hb); (try clear hb2); (try clear hk); (try clear hi); (try clear ho0)))
 go_ret2
 exact ⟨_, _, sqE', sqV HO323.out, sqV HO332.out, sqB⟩
def weigh_quotient.f (k : Nat) (a0 : Nat) (a1 : Int) : Option (Int × Int) := (weigh_fraction.f k a0 a1).bind fun bt333 => ((weigh_nat_over.f k bt333.1 bt333.2).bind fun bt339 => ((weigh_half.f k bt339.2 bt333.2).bind fun t343 => (some (bt339.1, t343))))
theorem weigh_quotient.mono : ∀ a0 a1 k, LeO (weigh_quotient.f k a0 a1) (weigh_quotient.f (k + 1) a0 a1) := by
 intro a0 a1 k
 unfold weigh_quotient.f
 repeat' first | (with_reducible first | apply weigh_fraction.mono | apply weigh_half.mono | apply weigh_nat_over.mono | apply LeO.refl | apply LeO.none | refine LeO.ite ?_ ?_ | refine LeO.bind ?_ (fun _ => ?_)) | apply LeO.none | refine LeO.ite ?_ ?_ | refine LeO.bind ?_ (fun _ => ?_)
theorem weigh_quotient.calls (k : Nat) (a0 : Nat) (a1 : Int) (r1 : Int) (r2 : Int) (w : World) (h : weigh_quotient.f k a0 a1 = some (r1, r2)) :
  Calls Tryz.prog 71 #[.float .f64 a0, .int .i64 a1] w fun e w' => e = .returned (.tuple #[.int .u64 r1, .int .i64 r2]) ∧ Below w.heap.size w w' := by
 have HB := Aside0.mk (Below.refl w.heap.size w)
 have H : ((weigh_fraction.f k a0 a1).bind fun bt333 => ((weigh_nat_over.f k bt333.1 bt333.2).bind fun bt339 => ((weigh_half.f k bt339.2 bt333.2).bind fun t343 => (some (bt339.1, t343))))) = some (r1, r2) := h
 clear h
 obtain ⟨⟨t333, t336⟩, A3, H⟩ := sqO H
 try dsimp only at H
 obtain ⟨⟨t339, t340⟩, A4, H⟩ := sqO H
 try dsimp only at H
 obtain ⟨t343, A5, H⟩ := sqO H
 try dsimp only at H
 simp only [Option.some.injEq, Prod.mk.injEq] at H
 obtain ⟨rfl, rfl⟩ := H
 go_enter Tryz.func71, Tryz.ntmps71
 go_wp2_with (first | ((with_reducible refine gate_callee (f := 95) rfl ?_); refine goesL_ (some 13) rfl rfl Tryz.func95 (by kernel_rfl) rfl #[.float .f64 a0, .int .i64 a1] rfl sqA ?_; (with_reducible refine (weigh_fraction.calls k a0 a1 t333 t336 _ A3.out).mono ?_); rintro e w6 ⟨v334, v337, rfl, ho0, ho1, hb⟩; refine ⟨_, rfl, ?_⟩; have n0_ := Aside0.mk (Kd.V_lower (Kd.V_mono (ok' := fun k_ => True) ho0 (fun k_ hk_ => trivial)) (below_size sqB)); have n1_ := Aside0.mk (Kd.V_lower (Kd.V_mono (ok' := fun k_ => True) ho1 (fun k_ hk_ => trivial)) (below_size sqB)); have n2_ := Aside0.mk (below_step sqB hb); clear HB; have HO335 := n0_; have HO338 := n1_; have HB := n2_; clear n0_ n1_ n2_; (try clear hb); (try clear hb2); (try clear hk); (try clear hi); (try clear ho0); (try clear ho1); obtain ⟨Ao7, co7, eo7⟩ := Kd.V_slice HO335.out; subst eo7; obtain ⟨Ao8, co8, eo8⟩ := Kd.V_slice HO338.out; subst eo8) | ((with_reducible refine gate_callee (f := 54) rfl ?_); refine goesL_ (some 19) rfl rfl Tryz.func54 (by kernel_rfl) rfl #[.slice Ao7 t333.length co7, .slice Ao8 t336.length co8] rfl sqA ?_; (with_reducible refine (weigh_nat_over.calls k (fun k_ => True) _ _ t333 (fun k_ => True) _ _ t336 t339 t340 _ ?side1 ?side2 A4.out).mono ?_); (case side1 => exact HO335.out); (case side2 => exact HO338.out); rintro e w9 ⟨v341, rfl, ho0, hb⟩; refine ⟨_, rfl, ?_⟩; have n0_ := Aside0.mk (Kd.V_below (sqV HO335.out) hb); have n1_ := Aside0.mk (Kd.V_below (sqV HO338.out) hb); have n2_ := Aside0.mk (Kd.V_lower (Kd.V_mono (ok' := fun k_ => True) ho0 (fun k_ hk_ => trivial)) (below_size sqB)); have n3_ := Aside0.mk (below_step sqB hb); clear HO335; clear HO338; clear HB; have HO335 := n0_; have HO338 := n1_; have HO342 := n2_; have HB := n3_; clear n0_ n1_ n2_ n3_; (try clear hb); (try clear hb2); (try clear hk); (try clear hi); (try clear ho0); obtain ⟨Ao10, co10, eo10⟩ := Kd.V_slice HO342.out; subst eo10) | ((with_reducible refine gate_callee (f := 55) rfl ?_); refine goesL_ (some 25) rfl rfl Tryz.func55 (by kernel_rfl) rfl #[.slice Ao10 t340.length co10, .slice Ao8 t336.length co8] rfl sqA ?_; (with_reducible refine (weigh_half.calls k _ _ t340 _ _ t336 t343 _ ?side1 ?side2 ?side3 ?side4 A5.out).mono ?_); (case side1 => repeat (first | exact (Kd.V_reads' HO342.out).2.2 | (with_reducible refine Kd.C_alloc ?_ _) | (with_reducible refine Kd.C_drewN ?_ _) | (with_reducible refine Kd.C_drew ?_))); (case side2 => exact (Kd.V_reads' HO342.out).2.1); (case side3 => repeat (first | exact (Kd.V_reads' HO338.out).2.2 | (with_reducible refine Kd.C_alloc ?_ _) | (with_reducible refine Kd.C_drewN ?_ _) | (with_reducible refine Kd.C_drew ?_))); (case side4 => exact (Kd.V_reads' HO338.out).2.1); rintro e w11 ⟨rfl, hb⟩; refine ⟨_, rfl, ?_⟩; have n0_ := Aside0.mk (Kd.V_below (sqV HO335.out) hb); have n1_ := Aside0.mk (Kd.V_below (sqV HO338.out) hb); have n2_ := Aside0.mk (Kd.V_below (sqV HO342.out) hb); have n3_ := Aside0.mk (below_step sqB hb); clear HO335; clear HO338; clear HO342; clear HB; have HO335 := n0_; have HO338 := n1_; have HO342 := n2_; have HB := n3_; clear n0_ n1_ n2_ n3_; (try clear hb); (try clear hb2); (try clear hk); (try clear hi)))
 go_ret2
 exact ⟨sqE', sqB⟩
def weigh_scaled.f (k : Nat) (a0 : Nat) (a1 : Int) : Option (Int) := (weigh_quotient.f k a0 a1).bind fun bt344 => (some bt344.1)
theorem weigh_scaled.mono : ∀ a0 a1 k, LeO (weigh_scaled.f k a0 a1) (weigh_scaled.f (k + 1) a0 a1) := by
 intro a0 a1 k
 unfold weigh_scaled.f
 repeat' first | (with_reducible first | apply weigh_quotient.mono | apply LeO.refl | apply LeO.none | refine LeO.ite ?_ ?_ | refine LeO.bind ?_ (fun _ => ?_)) | apply LeO.none | refine LeO.ite ?_ ?_ | refine LeO.bind ?_ (fun _ => ?_)
theorem weigh_scaled.calls (k : Nat) (a0 : Nat) (a1 : Int) (r : Int) (w : World) (h : weigh_scaled.f k a0 a1 = some r) :
  Calls Tryz.prog 40 #[.float .f64 a0, .int .i64 a1] w fun e w' => e = .returned (.int .u64 r) ∧ Below w.heap.size w w' := by
 have HB := Aside0.mk (Below.refl w.heap.size w)
 have H : ((weigh_quotient.f k a0 a1).bind fun bt344 => (some bt344.1)) = some r := h
 clear h
 obtain ⟨⟨t344, t345⟩, A3, H⟩ := sqO H
 try dsimp only at H
 obtain rfl := Option.some.inj H
 go_enter Tryz.func40, Tryz.ntmps40
 go_wp2_with (first | ((with_reducible refine gate_callee (f := 71) rfl ?_); refine goesL_ (some 10) rfl rfl Tryz.func71 (by kernel_rfl) rfl #[.float .f64 a0, .int .i64 a1] rfl sqA ?_; (with_reducible refine (weigh_quotient.calls k a0 a1 t344 t345 _ A3.out).mono ?_); rintro e w4 ⟨rfl, hb⟩; refine ⟨_, rfl, ?_⟩; have n0_ := Aside0.mk (below_step sqB hb); clear HB; have HB := n0_; clear n0_; (try clear hb); (try clear hb2); (try clear hk); (try clear hi)))
 go_ret
 exact ⟨sqE', sqB⟩
-- NOT PRINTED: function 114 (strconv_small)
-- NOT PRINTED: function 121 (strconv_log10Pow2)
-- NOT PRINTED: function 122 (bits_Len64)
-- NOT PRINTED: function 123 (strconv_bool2_int)
-- NOT PRINTED: function 115 (strconv_numDigits)
-- NOT PRINTED: function 116 (strconv_formatBase10)
-- NOT PRINTED: function 124 (strconv_isPowerOfTwo)
-- NOT PRINTED: function 126 (bits_TrailingZeros32)
-- NOT PRINTED: function 127 (bits_TrailingZeros64)
-- NOT PRINTED: function 125 (bits_TrailingZeros)
-- NOT PRINTED: function 117 (strconv_formatBits)
-- NOT PRINTED: function 108 (strconv_FormatUint_108)
def strconv_FormatUint_96.f (a0 : Int) (a1 : Int) : Option ByteArray := if (0 ≤ a0 ∧ a0 < 9223372036854775808) ∧ a1 = 10 then some ⟨(Lib.itoa a0).toArray⟩ else none
theorem strconv_FormatUint_96.calls (a0 : Int) (a1 : Int) (r : ByteArray) (w : World) (htab : Aside0 (Rm.Tab w)) (h : strconv_FormatUint_96.f a0 a1 = some r) :
  Calls Tryz.prog 96 #[.int .u64 a0, .int .i64 a1] w fun e w' => e = .returned (.string r) ∧ Below w.heap.size w w' := by
 unfold strconv_FormatUint_96.f at h
 split at h
 ·rename_i hc
  obtain rfl := Option.some.inj h
  exact hc.2 ▸ Rm.formatUint_calls a0 hc.1.1 hc.1.2 w htab.out
 exact absurd h (by simp)

-- NOT PRINTED: function 118 (strconv_FormatInt)
-- NOT PRINTED: function 109 (strconv_Itoa_109)
def strconv_Itoa_97.f (a0 : Int) : Option ByteArray := if -9223372036854775808 ≤ a0 ∧ a0 ≤ 9223372036854775807 then some ⟨(Lib.itoa a0).toArray⟩ else none
theorem strconv_Itoa_97.calls (a0 : Int) (r : ByteArray) (w : World) (htab : Aside0 (Rm.Tab w)) (h : strconv_Itoa_97.f a0 = some r) :
  Calls Tryz.prog 97 #[.int .i64 a0] w fun e w' => e = .returned (.string r) ∧ Below w.heap.size w w' := by
 unfold strconv_Itoa_97.f at h
 split at h
 ·rename_i hc
  obtain rfl := Option.some.inj h
  exact Rm.itoa_calls a0 hc.1 hc.2 w htab.out
 exact absurd h (by simp)

def weigh_written.l0 : Nat → Int → Int → Option (ByteArray)
 | 0, _, _ => none
 | k + 1, x0, x1 => if (Int.tmod x0 10) = 0 then (weigh_written.l0 k (IntKind.u64.wrap (Int.tdiv x0 10)) (wrap64 (x1 + 1))) else ((strconv_FormatUint_96.f x0 10).bind fun t352 => (if x1 = 0 then (some t352) else (if t352.size + 1 ≤ 9223372036854775807 then ((strconv_Itoa_97.f x1).bind fun t353 => (if (t352 ++ (⟨#[101]⟩ : ByteArray)).size + t353.size ≤ 9223372036854775807 then (some ((t352 ++ (⟨#[101]⟩ : ByteArray)) ++ t353)) else (none))) else (none))))
def weigh_written.f (k : Nat) (a0 : Int) (a1 : Int) : Option (ByteArray) := weigh_written.l0 k a0 a1
theorem weigh_written.mono_l : ∀ k, (∀ y0 y1, LeO (weigh_written.l0 k y0 y1) (weigh_written.l0 (k + 1) y0 y1))
 | 0 => fun _ _ r h => by simp [weigh_written.l0] at h
 | k + 1 => by
  have ih0 := weigh_written.mono_l k
  intro y0 y1
  unfold weigh_written.l0
  repeat' first | (with_reducible first | apply ih0 | apply LeO.refl | apply LeO.none | refine LeO.ite ?_ ?_ | refine LeO.bind ?_ (fun _ => ?_)) | apply LeO.none | refine LeO.ite ?_ ?_ | refine LeO.bind ?_ (fun _ => ?_)
theorem weigh_written.mono : ∀ a0 a1 k, LeO (weigh_written.f k a0 a1) (weigh_written.f (k + 1) a0 a1) := by
 intro a0 a1 k
 have ih0 := weigh_written.mono_l k
 unfold weigh_written.f
 repeat' first | (with_reducible first | apply ih0 | apply LeO.refl | apply LeO.none | refine LeO.ite ?_ ?_ | refine LeO.bind ?_ (fun _ => ?_)) | apply LeO.none | refine LeO.ite ?_ ?_ | refine LeO.bind ?_ (fun _ => ?_)
theorem weigh_written.calls (k : Nat) (a0 : Int) (a1 : Int) (r : ByteArray) (w : World) (htab : Aside0 (Rm.Tab w)) (h : weigh_written.f k a0 a1 = some r) :
  Calls Tryz.prog 72 #[.int .u64 a0, .int .i64 a1] w fun e w' => e = .returned (.string r) ∧ Below w.heap.size w w' := by
 have HB := Aside0.mk (Below.refl w.heap.size w)
 have H : (weigh_written.l0 k a0 a1) = some r := h
 clear h
 have H' := Aside0.mk H
 clear H
 go_enter Tryz.func72, Tryz.ntmps72
 go_wp2
 go_loopg [0, 1] k (fun kq v0 v1 w' => ∃ (x0_1 : Int) (x1_1 : Int), v0 = .int .u64 x0_1 ∧ v1 = .int .i64 x1_1 ∧ Aside0 (weigh_written.l0 kq x0_1 x1_1 = some r) ∧ Aside0 (kq ≤ k) ∧ Aside0 (Below w.heap.size w w'))
 case atStart => exact ⟨(a0), (a1), sqE, sqE, H', ⟨Nat.le_refl _⟩, ⟨sqB⟩⟩
 case round =>
  clear H'
  try clear p2
  obtain ⟨x0_1, x1_1, rfl, rfl, HA, HK1, HB⟩ := hrel
  cases gk with
  | zero => exact absurd HA.out (by simp [weigh_written.l0])
  | succ k1 =>
   have H := HA.out
   clear HA
   simp only [weigh_written.l0] at H
   by_cases c3 : (Int.tmod x0_1 10) = 0
   ·rw [if_pos c3] at H
    have c3b0 := beq_iff_eq.mpr c3
    have c3b1 := bne_eq_false_iff_eq.mpr c3
    clear c3
    have H' := Aside0.mk H
    clear H
    go_wp2
    go_roundg k1
    case measure => have := HK1.out; omega
    case rel => exact ⟨(IntKind.u64.wrap (Int.tdiv x0_1 10)), (wrap64 (x1_1 + 1)), sqE, sqE, H', ⟨by have := HK1.out; omega⟩, ⟨sqB⟩⟩
   rw [if_neg c3] at H
   have c3b0 := beq_eq_false_iff_ne.mpr c3
   have c3b1 := bne_iff_ne.mpr c3
   obtain ⟨t352, A4, H⟩ := sqO H
   try dsimp only at H
   by_cases c5 : x1_1 = 0
   ·rw [if_pos c5] at H
    have c5b0 := beq_iff_eq.mpr c5
    have c5b1 := bne_eq_false_iff_eq.mpr c5
    clear c5
    obtain rfl := Option.some.inj H
    go_wp2_with (first | ((with_reducible refine gate_callee (f := 96) rfl ?_); refine goesL_ (some 14) rfl rfl Tryz.func96 (by kernel_rfl) rfl #[.int .u64 x0_1, .int .i64 10] rfl sqA ?_; (with_reducible refine (strconv_FormatUint_96.calls x0_1 10 t352 _ ⟨htab.out.below sqB⟩ A4.out).mono ?_); rintro e w6 ⟨rfl, hb⟩; refine ⟨_, rfl, ?_⟩; have n0_ := Aside0.mk (below_step sqB hb); clear HB; have HB := n0_; clear n0_; (try clear hb); (try clear hb2); (try clear hk); (try clear hi)))
    go_ret
    exact ⟨sqE', sqB⟩
   rw [if_neg c5] at H
   have c5b0 := beq_eq_false_iff_ne.mpr c5
   have c5b1 := bne_iff_ne.mpr c5
   by_cases c7 : t352.size + 1 ≤ 9223372036854775807
   case neg => rw [if_neg c7] at H; exact absurd H (by simp)
   rw [if_pos c7] at H
   have c7b0 := eq_true c7
   have c7b1 := decide_eq_true c7
   try have c7b2 : (9223372036854775807 < t352.size + 1) = False := eq_false (Nat.not_lt.2 c7)
   obtain ⟨t353, A8, H⟩ := sqO H
   try dsimp only at H
   by_cases c9 : (t352 ++ (⟨#[101]⟩ : ByteArray)).size + t353.size ≤ 9223372036854775807
   case neg => rw [if_neg c9] at H; exact absurd H (by simp)
   rw [if_pos c9] at H
   have c9b0 := eq_true c9
   have c9b1 := decide_eq_true c9
   try have c9b2 : (9223372036854775807 < (t352 ++ (⟨#[101]⟩ : ByteArray)).size + t353.size) = False := eq_false (Nat.not_lt.2 c9)
   have c9b3 : (9223372036854775807 < t352.size + 1 + t353.size) = False := eq_false (by have h_ := c9; have e_ : (⟨#[101]⟩ : ByteArray).size = 1 := rfl; rw [ByteArray.size_append] at h_; omega)
   obtain rfl := Option.some.inj H
   go_wp2_with (first | ((with_reducible refine gate_callee (f := 96) rfl ?_); refine goesL_ (some 14) rfl rfl Tryz.func96 (by kernel_rfl) rfl #[.int .u64 x0_1, .int .i64 10] rfl sqA ?_; (with_reducible refine (strconv_FormatUint_96.calls x0_1 10 t352 _ ⟨htab.out.below sqB⟩ A4.out).mono ?_); rintro e w10 ⟨rfl, hb⟩; refine ⟨_, rfl, ?_⟩; have n0_ := Aside0.mk (below_step sqB hb); clear HB; have HB := n0_; clear n0_; (try clear hb); (try clear hb2); (try clear hk); (try clear hi)) | ((with_reducible refine gate_callee (f := 97) rfl ?_); refine goesL_ (some 21) rfl rfl Tryz.func97 (by kernel_rfl) rfl #[.int .i64 x1_1] rfl sqA ?_; (with_reducible refine (strconv_Itoa_97.calls x1_1 t353 _ ⟨htab.out.below sqB⟩ A8.out).mono ?_); rintro e w11 ⟨rfl, hb⟩; refine ⟨_, rfl, ?_⟩; have n0_ := Aside0.mk (below_step sqB hb); clear HB; have HB := n0_; clear n0_; (try clear hb); (try clear hb2); (try clear hk); (try clear hi)))
   go_ret
   exact ⟨sqE', sqB⟩
end Go.Proofs.YtfmjdoofopamkaaGreatDoor.W
