import Derived.Test.YtfmjdoofopamkaaGreatDoorWx0
import Derived.Test.YtfmjdoofopamkaaGreatDoorWx3
import Derived.Test.YtfmjdoofopamkaaGreatDoorWx4
namespace Go.Proofs.YtfmjdoofopamkaaGreatDoor.W
open Go.RowKit Go.Proofs.YtfmjdoofopamkaaGreatDoorW.PrintWords Go.Proofs.YtfmjdoofopamkaaGreatDoorW.PrintLast Go.Proofs.YtfmjdoofopamkaaGreatDoorW.PrintMore
set_option maxHeartbeats 8000000
set_option maxRecDepth 100000
attribute [local go_sem] max2_int min2_int max_two min_two max_three min_three max_four min_four
set_option linter.unusedVariables false
set_option linter.unusedSimpArgs false
def weigh_rounded.j0 : Nat → List Int → List Int → Int → Int → Option (Nat)
 | 0, _, _, _, _ => none
 | k + 1, x0, x1, x2, x7 => (weigh_nat_up.f k x0 (wrap64 (x2 - (mx (wrap64 ((wrap64 (x7 + x2)) - 52)) (-1074))))).bind fun t172 => ((weigh_nat_up.f k x1 (wrap64 ((mx (wrap64 ((wrap64 (x7 + x2)) - 52)) (-1074)) - x2))).bind fun t175 => ((weigh_nat_over.f k t172 t175).bind fun bt178 => ((weigh_half.f k bt178.2 t175).bind fun t182 => (if t182 > 0 then ((math_Ldexp.f (floatOfInt .f64 (IntKind.u64.wrap (bt178.1 + 1))) (mx (wrap64 ((wrap64 (x7 + x2)) - 52)) (-1074))).bind fun t183 => (some t183)) else (if t182 = 0 then (if (Int.tmod bt178.1 2) = 1 then ((math_Ldexp.f (floatOfInt .f64 (IntKind.u64.wrap (bt178.1 + 1))) (mx (wrap64 ((wrap64 (x7 + x2)) - 52)) (-1074))).bind fun t184 => (some t184)) else ((math_Ldexp.f (floatOfInt .f64 bt178.1) (mx (wrap64 ((wrap64 (x7 + x2)) - 52)) (-1074))).bind fun t185 => (some t185))) else ((math_Ldexp.f (floatOfInt .f64 bt178.1) (mx (wrap64 ((wrap64 (x7 + x2)) - 52)) (-1074))).bind fun t186 => (some t186)))))))
def weigh_rounded.f (k : Nat) (l0 : List Int) (l1 : List Int) (a2 : Int) : Option (Nat) := (weigh_nat_length.f l0).bind fun t163 => ((weigh_nat_length.f l1).bind fun t164 => ((weigh_nat_up.f k l0 (wrap64 (-(wrap64 (t163 - t164))))).bind fun t165 => ((weigh_nat_up.f k l1 (wrap64 (t163 - t164))).bind fun t168 => ((weigh_nat_compare.f k t165 t168).bind fun t171 => (if t171 < 0 then (weigh_rounded.j0 k l0 l1 a2 (wrap64 ((wrap64 (t163 - t164)) - 1))) else (weigh_rounded.j0 k l0 l1 a2 (wrap64 (t163 - t164))))))))
theorem weigh_rounded.mono_l : ∀ k, (∀ y0 y1 y2 y3, LeO (weigh_rounded.j0 k y0 y1 y2 y3) (weigh_rounded.j0 (k + 1) y0 y1 y2 y3))
 | 0 => fun _ _ _ _ r h => by simp [weigh_rounded.j0] at h
 | k + 1 => by
  have ih0 := weigh_rounded.mono_l k
  intro y0 y1 y2 y3
  unfold weigh_rounded.j0
  repeat' first | (with_reducible first | apply ih0 | apply weigh_half.mono | apply weigh_nat_compare.mono | apply weigh_nat_over.mono | apply weigh_nat_up.mono | apply LeO.refl | apply LeO.none | refine LeO.ite ?_ ?_ | refine LeO.bind ?_ (fun _ => ?_)) | apply LeO.none | refine LeO.ite ?_ ?_ | refine LeO.bind ?_ (fun _ => ?_)
theorem weigh_rounded.mono : ∀ a0 a1 a2 k, LeO (weigh_rounded.f k a0 a1 a2) (weigh_rounded.f (k + 1) a0 a1 a2) := by
 intro a0 a1 a2 k
 have ih0 := weigh_rounded.mono_l k
 unfold weigh_rounded.f
 repeat' first | (with_reducible first | apply ih0 | apply weigh_half.mono | apply weigh_nat_compare.mono | apply weigh_nat_over.mono | apply weigh_nat_up.mono | apply LeO.refl | apply LeO.none | refine LeO.ite ?_ ?_ | refine LeO.bind ?_ (fun _ => ?_)) | apply LeO.none | refine LeO.ite ?_ ?_ | refine LeO.bind ?_ (fun _ => ?_)
theorem weigh_rounded.calls (k : Nat) (A0 : Option Addr) (c0 : Nat) (l0 : List Int) (A1 : Option Addr) (c1 : Nat) (l1 : List Int) (a2 : Int) (r : Nat) (w : World) (hr0 : Kd.C (Kd.int .u32) w A0 l0.length l0) (hc0 : l0.length ≤ c0) (hr1 : Kd.C (Kd.int .u32) w A1 l1.length l1) (hc1 : l1.length ≤ c1) (h : weigh_rounded.f k l0 l1 a2 = some r) :
  Calls Tryz.prog 27 #[.slice A0 l0.length c0, .slice A1 l1.length c1, .int .i64 a2] w fun e w' => e = .returned (.float .f64 r) ∧ Below w.heap.size w w' := by
 have HR0 := Aside0.mk hr0
 have HC0 := Aside0.mk hc0
 clear hr0 hc0
 have HR1 := Aside0.mk hr1
 have HC1 := Aside0.mk hc1
 clear hr1 hc1
 have HB := Aside0.mk (Below.refl w.heap.size w)
 have H : ((weigh_nat_length.f l0).bind fun t163 => ((weigh_nat_length.f l1).bind fun t164 => ((weigh_nat_up.f k l0 (wrap64 (-(wrap64 (t163 - t164))))).bind fun t165 => ((weigh_nat_up.f k l1 (wrap64 (t163 - t164))).bind fun t168 => ((weigh_nat_compare.f k t165 t168).bind fun t171 => (if t171 < 0 then (weigh_rounded.j0 k l0 l1 a2 (wrap64 ((wrap64 (t163 - t164)) - 1))) else (weigh_rounded.j0 k l0 l1 a2 (wrap64 (t163 - t164))))))))) = some r := h
 clear h
 obtain ⟨t163, A4, H⟩ := sqO H
 try dsimp only at H
 obtain ⟨t164, A5, H⟩ := sqO H
 try dsimp only at H
 obtain ⟨t165, A6, H⟩ := sqO H
 try dsimp only at H
 obtain ⟨t168, A7, H⟩ := sqO H
 try dsimp only at H
 obtain ⟨t171, A8, H⟩ := sqO H
 try dsimp only at H
 have HC9 := Aside0.mk H
 clear H
 go_enter Tryz.func27, Tryz.ntmps27
 go_upto_if 27 with (first | ((with_reducible refine gate_callee (f := 51) rfl ?_); refine goesL_ (some 14) rfl rfl Tryz.func51 (by kernel_rfl) rfl #[.slice A0 l0.length c0] rfl sqA ?_; (with_reducible refine (weigh_nat_length.calls _ _ l0 t163 _ ?side1 ?side2 A4.out).mono ?_); (case side1 => repeat (first | exact HR0.out | (with_reducible refine Kd.C_alloc ?_ _) | (with_reducible refine Kd.C_drewN ?_ _) | (with_reducible refine Kd.C_drew ?_))); (case side2 => exact HC0.out); rintro e w' ⟨rfl, ⟨nd, rfl⟩⟩; refine ⟨_, rfl, ?_⟩) | ((with_reducible refine gate_callee (f := 51) rfl ?_); refine goesL_ (some 16) rfl rfl Tryz.func51 (by kernel_rfl) rfl #[.slice A1 l1.length c1] rfl sqA ?_; (with_reducible refine (weigh_nat_length.calls _ _ l1 t164 _ ?side1 ?side2 A5.out).mono ?_); (case side1 => repeat (first | exact HR1.out | (with_reducible refine Kd.C_alloc ?_ _) | (with_reducible refine Kd.C_drewN ?_ _) | (with_reducible refine Kd.C_drew ?_))); (case side2 => exact HC1.out); rintro e w' ⟨rfl, ⟨nd, rfl⟩⟩; refine ⟨_, rfl, ?_⟩) | ((with_reducible refine gate_callee (f := 52) rfl ?_); refine goesL_ (some 21) rfl rfl Tryz.func52 (by kernel_rfl) rfl #[.slice A0 l0.length c0, .int .i64 (wrap64 (-(wrap64 (t163 - t164))))] rfl sqA ?_; (with_reducible refine (weigh_nat_up.calls k (fun k_ => k_ < w.heap.size) _ _ l0 (wrap64 (-(wrap64 (t163 - t164)))) t165 _ ?side1 A6.out).mono ?_); (case side1 => exact Kd.V_mk HC0.out (Kd.F_below (Kd.C_F (Kd.heap_int .u32) HR0.out) sqB)); rintro e w10 ⟨v166, rfl, ho0, hb⟩; refine ⟨_, rfl, ?_⟩; have n0_ := Aside0.mk (Kd.V_lower (Kd.V_mono (ok' := fun k_ => True) ho0 (fun k_ hk_ => trivial)) (below_size sqB)); have n1_ := Aside0.mk (below_step sqB hb); clear HB; have HO167 := n0_; have HB := n1_; clear n0_ n1_; (try clear hb); (try clear hb2); (try clear hk); (try clear hi); (try clear ho0)) | ((with_reducible refine gate_callee (f := 52) rfl ?_); refine goesL_ (some 24) rfl rfl Tryz.func52 (by kernel_rfl) rfl #[.slice A1 l1.length c1, .int .i64 (wrap64 (t163 - t164))] rfl sqA ?_; (with_reducible refine (weigh_nat_up.calls k (fun k_ => k_ < w.heap.size) _ _ l1 (wrap64 (t163 - t164)) t168 _ ?side1 A7.out).mono ?_); (case side1 => exact Kd.V_mk HC1.out (Kd.F_below (Kd.C_F (Kd.heap_int .u32) HR1.out) sqB)); rintro e w11 ⟨v169, rfl, ho0, hb⟩; refine ⟨_, rfl, ?_⟩; have n0_ := Aside0.mk (Kd.V_below (sqV HO167.out) hb); have n1_ := Aside0.mk (Kd.V_lower (Kd.V_mono (ok' := fun k_ => True) ho0 (fun k_ hk_ => trivial)) (below_size sqB)); have n2_ := Aside0.mk (below_step sqB hb); clear HO167; clear HB; have HO167 := n0_; have HO170 := n1_; have HB := n2_; clear n0_ n1_ n2_; (try clear hb); (try clear hb2); (try clear hk); (try clear hi); (try clear ho0); obtain ⟨Ao12, co12, eo12⟩ := Kd.V_slice HO167.out; subst eo12; obtain ⟨Ao13, co13, eo13⟩ := Kd.V_slice HO170.out; subst eo13) | ((with_reducible refine gate_callee (f := 53) rfl ?_); refine goesL_ (some 25) rfl rfl Tryz.func53 (by kernel_rfl) rfl #[.slice Ao12 t165.length co12, .slice Ao13 t168.length co13] rfl sqA ?_; (with_reducible refine (weigh_nat_compare.calls k _ _ t165 _ _ t168 t171 _ ?side1 ?side2 ?side3 ?side4 A8.out).mono ?_); (case side1 => repeat (first | exact (Kd.V_reads' HO167.out).2.2 | (with_reducible refine Kd.C_alloc ?_ _) | (with_reducible refine Kd.C_drewN ?_ _) | (with_reducible refine Kd.C_drew ?_))); (case side2 => exact (Kd.V_reads' HO167.out).2.1); (case side3 => repeat (first | exact (Kd.V_reads' HO170.out).2.2 | (with_reducible refine Kd.C_alloc ?_ _) | (with_reducible refine Kd.C_drewN ?_ _) | (with_reducible refine Kd.C_drew ?_))); (case side4 => exact (Kd.V_reads' HO170.out).2.1); rintro e w' ⟨rfl, ⟨nd, rfl⟩⟩; refine ⟨_, rfl, ?_⟩))
 (try simp only [Act.put, List.setIfInBounds_toArray, List.set_cons_zero, List.set_cons_succ])
 go_cut [7] (fun v7 wc => ∃ (kq : Nat) (x7_8 : Int), v7 = .int .i64 x7_8 ∧ Aside0 (weigh_rounded.j0 kq l0 l1 a2 x7_8 = some r) ∧ Aside0 (kq ≤ k) ∧ Aside0 (Below w.heap.size w wc))
 case first =>
  have H := HC9.out
  clear HC9
  by_cases c14 : t171 < 0
  ·rw [if_pos c14] at H
   have c14b0 := decide_eq_true c14
   clear c14
   (first | rw [c14b0] | (simp only [i64_w, i32_w]; rw [c14b0]) | skip)
   have H' := Aside0.mk H
   clear H
   go_wp2
   go_meet
   case rel => exact ⟨_, (wrap64 ((wrap64 (t163 - t164)) - 1)), sqE, H', ⟨by first | omega | exact Nat.le_refl _⟩, ⟨sqB⟩⟩
  rw [if_neg c14] at H
  have c14b0 := decide_eq_false c14
  clear c14
  (first | rw [c14b0] | (simp only [i64_w, i32_w]; rw [c14b0]) | skip)
  have H' := Aside0.mk H
  clear H
  go_wp2
  go_meet
  case rel => exact ⟨_, (wrap64 (t163 - t164)), sqE, H', ⟨by first | omega | exact Nat.le_refl _⟩, ⟨sqB⟩⟩
 case rest =>
  clear HC9
  try clear c1
  try clear c2
  try clear p2
  try clear c5
  try clear p6
  try clear c14
  try clear c14b0
  obtain ⟨kq, x7_8, rfl, HA, HJ8, HB⟩ := hcut
  cases kq with
  | zero => exact absurd HA.out (by simp [weigh_rounded.j0])
  | succ kj8 =>
   have H := HA.out
   clear HA
   simp only [weigh_rounded.j0] at H
   obtain ⟨ji15, hji15⟩ : ∃ j_ : Int, (mx (wrap64 ((wrap64 (x7_8 + a2)) - 52)) (-1074)) = j_ := ⟨_, rfl⟩
   replace H : ((weigh_nat_up.f kj8 l0 (wrap64 (a2 - (ji15)))).bind fun t172 => ((weigh_nat_up.f kj8 l1 (wrap64 ((ji15) - a2))).bind fun t175 => ((weigh_nat_over.f kj8 t172 t175).bind fun bt178 => ((weigh_half.f kj8 bt178.2 t175).bind fun t182 => (if t182 > 0 then ((math_Ldexp.f (floatOfInt .f64 (IntKind.u64.wrap (bt178.1 + 1))) (ji15)).bind fun t183 => (some t183)) else (if t182 = 0 then (if (Int.tmod bt178.1 2) = 1 then ((math_Ldexp.f (floatOfInt .f64 (IntKind.u64.wrap (bt178.1 + 1))) (ji15)).bind fun t184 => (some t184)) else ((math_Ldexp.f (floatOfInt .f64 bt178.1) (ji15)).bind fun t185 => (some t185))) else ((math_Ldexp.f (floatOfInt .f64 bt178.1) (ji15)).bind fun t186 => (some t186)))))))) = some r := by first | (rw [hji15] at H; exact H) | (simp only [hji15] at H ⊢; exact H)
   have hji15_ : (if (wrap64 ((wrap64 (x7_8 + a2)) - 52)) < (-1074) then (-1074) else (wrap64 ((wrap64 (x7_8 + a2)) - 52))) = ji15 := hji15
   obtain ⟨t172, A16, H⟩ := sqO H
   try dsimp only at H
   obtain ⟨t175, A17, H⟩ := sqO H
   try dsimp only at H
   obtain ⟨⟨t178, t179⟩, A18, H⟩ := sqO H
   try dsimp only at H
   obtain ⟨t182, A19, H⟩ := sqO H
   try dsimp only at H
   by_cases c20 : t182 > 0
   ·rw [if_pos c20] at H
    have c20b0 := decide_eq_true c20
    clear c20
    obtain ⟨t183, A21, H⟩ := sqO H
    try dsimp only at H
    obtain rfl := Option.some.inj H
    go_wp2_with (first | ((with_reducible refine gate_callee (f := 52) rfl ?_); refine goesL_ (some 39) rfl rfl Tryz.func52 (by kernel_rfl) rfl #[.slice A0 l0.length c0, .int .i64 (wrap64 (a2 - (ji15)))] rfl (by (try simp only [List.map_toArray, List.map_cons, List.map_nil]); first | done | (simp only [hji15]; rfl) | rfl | (simp only [List.length_drop, List.length_take]; rfl)) ?_; (with_reducible refine (weigh_nat_up.calls kj8 (fun k_ => k_ < w.heap.size) _ _ l0 (wrap64 (a2 - (ji15))) t172 _ ?side1 A16.out).mono ?_); (case side1 => exact Kd.V_mk HC0.out (Kd.F_below (Kd.C_F (Kd.heap_int .u32) HR0.out) sqB)); rintro e w22 ⟨v173, rfl, ho0, hb⟩; refine ⟨_, rfl, ?_⟩; have n0_ := Aside0.mk (Kd.V_lower (Kd.V_mono (ok' := fun k_ => True) ho0 (fun k_ hk_ => trivial)) (below_size sqB)); have n1_ := Aside0.mk (below_step sqB hb); clear HB; have HO174 := n0_; have HB := n1_; clear n0_ n1_; (try clear hb); (try clear hb2); (try clear hk); (try clear hi); (try clear ho0)) | ((with_reducible refine gate_callee (f := 52) rfl ?_); refine goesL_ (some 44) rfl rfl Tryz.func52 (by kernel_rfl) rfl #[.slice A1 l1.length c1, .int .i64 (wrap64 ((ji15) - a2))] rfl (by (try simp only [List.map_toArray, List.map_cons, List.map_nil]); first | done | (simp only [hji15]; rfl) | rfl | (simp only [List.length_drop, List.length_take]; rfl)) ?_; (with_reducible refine (weigh_nat_up.calls kj8 (fun k_ => k_ < w.heap.size) _ _ l1 (wrap64 ((ji15) - a2)) t175 _ ?side1 A17.out).mono ?_); (case side1 => exact Kd.V_mk HC1.out (Kd.F_below (Kd.C_F (Kd.heap_int .u32) HR1.out) sqB)); rintro e w23 ⟨v176, rfl, ho0, hb⟩; refine ⟨_, rfl, ?_⟩; have n0_ := Aside0.mk (Kd.V_below (sqV HO174.out) hb); have n1_ := Aside0.mk (Kd.V_lower (Kd.V_mono (ok' := fun k_ => True) ho0 (fun k_ hk_ => trivial)) (below_size sqB)); have n2_ := Aside0.mk (below_step sqB hb); clear HO174; clear HB; have HO174 := n0_; have HO177 := n1_; have HB := n2_; clear n0_ n1_ n2_; (try clear hb); (try clear hb2); (try clear hk); (try clear hi); (try clear ho0); obtain ⟨Ao24, co24, eo24⟩ := Kd.V_slice HO174.out; subst eo24; obtain ⟨Ao25, co25, eo25⟩ := Kd.V_slice HO177.out; subst eo25) | ((with_reducible refine gate_callee (f := 54) rfl ?_); refine goesL_ (some 48) rfl rfl Tryz.func54 (by kernel_rfl) rfl #[.slice Ao24 t172.length co24, .slice Ao25 t175.length co25] rfl sqA ?_; (with_reducible refine (weigh_nat_over.calls kj8 (fun k_ => True) _ _ t172 (fun k_ => True) _ _ t175 t178 t179 _ ?side1 ?side2 A18.out).mono ?_); (case side1 => exact HO174.out); (case side2 => exact HO177.out); rintro e w26 ⟨v180, rfl, ho0, hb⟩; refine ⟨_, rfl, ?_⟩; have n0_ := Aside0.mk (Kd.V_below (sqV HO174.out) hb); have n1_ := Aside0.mk (Kd.V_below (sqV HO177.out) hb); have n2_ := Aside0.mk (Kd.V_lower (Kd.V_mono (ok' := fun k_ => True) ho0 (fun k_ hk_ => trivial)) (below_size sqB)); have n3_ := Aside0.mk (below_step sqB hb); clear HO174; clear HO177; clear HB; have HO174 := n0_; have HO177 := n1_; have HO181 := n2_; have HB := n3_; clear n0_ n1_ n2_ n3_; (try clear hb); (try clear hb2); (try clear hk); (try clear hi); (try clear ho0); obtain ⟨Ao27, co27, eo27⟩ := Kd.V_slice HO181.out; subst eo27) | ((with_reducible refine gate_callee (f := 55) rfl ?_); refine goesL_ (some 53) rfl rfl Tryz.func55 (by kernel_rfl) rfl #[.slice Ao27 t179.length co27, .slice Ao25 t175.length co25] rfl sqA ?_; (with_reducible refine (weigh_half.calls kj8 _ _ t179 _ _ t175 t182 _ ?side1 ?side2 ?side3 ?side4 A19.out).mono ?_); (case side1 => repeat (first | exact (Kd.V_reads' HO181.out).2.2 | (with_reducible refine Kd.C_alloc ?_ _) | (with_reducible refine Kd.C_drewN ?_ _) | (with_reducible refine Kd.C_drew ?_))); (case side2 => exact (Kd.V_reads' HO181.out).2.1); (case side3 => repeat (first | exact (Kd.V_reads' HO177.out).2.2 | (with_reducible refine Kd.C_alloc ?_ _) | (with_reducible refine Kd.C_drewN ?_ _) | (with_reducible refine Kd.C_drew ?_))); (case side4 => exact (Kd.V_reads' HO177.out).2.1); rintro e w28 ⟨rfl, hb⟩; refine ⟨_, rfl, ?_⟩; have n0_ := Aside0.mk (Kd.V_below (sqV HO174.out) hb); have n1_ := Aside0.mk (Kd.V_below (sqV HO177.out) hb); have n2_ := Aside0.mk (Kd.V_below (sqV HO181.out) hb); have n3_ := Aside0.mk (below_step sqB hb); clear HO174; clear HO177; clear HO181; clear HB; have HO174 := n0_; have HO177 := n1_; have HO181 := n2_; have HB := n3_; clear n0_ n1_ n2_ n3_; (try clear hb); (try clear hb2); (try clear hk); (try clear hi)) | ((with_reducible refine gate_callee (f := 56) rfl ?_); refine goesL_ (some 70) rfl rfl Tryz.func56 (by kernel_rfl) rfl #[.float .f64 (floatOfInt .f64 (IntKind.u64.wrap (t178 + 1))), .int .i64 ji15] rfl (by (try simp only [List.map_toArray, List.map_cons, List.map_nil]); first | done | (simp only [hji15]; rfl) | rfl | (simp only [List.length_drop, List.length_take]; rfl)) ?_; (with_reducible refine (math_Ldexp.calls (floatOfInt .f64 (IntKind.u64.wrap (t178 + 1))) ji15 t183 _ A21.out).mono ?_); rintro e w' ⟨rfl, ⟨nd, rfl⟩⟩; refine ⟨_, rfl, ?_⟩))
    go_ret
    exact ⟨by first | rfl | (simp [errW_none, errW_some] <;> rfl) | (simp only [← hji15]; first | rfl | (simp [errW_none, errW_some] <;> rfl)) | (simp [*, errW_none, errW_some] <;> rfl), sqB⟩
   rw [if_neg c20] at H
   have c20b0 := decide_eq_false c20
   clear c20
   by_cases c29 : t182 = 0
   case neg =>
    rw [if_neg c29] at H
    have c29b0 := beq_eq_false_iff_ne.mpr c29
    have c29b1 := bne_iff_ne.mpr c29
    obtain ⟨t186, A47, H⟩ := sqO H
    try dsimp only at H
    obtain rfl := Option.some.inj H
    go_wp2_with (first | ((with_reducible refine gate_callee (f := 52) rfl ?_); refine goesL_ (some 39) rfl rfl Tryz.func52 (by kernel_rfl) rfl #[.slice A0 l0.length c0, .int .i64 (wrap64 (a2 - (ji15)))] rfl (by (try simp only [List.map_toArray, List.map_cons, List.map_nil]); first | done | (simp only [hji15]; rfl) | rfl | (simp only [List.length_drop, List.length_take]; rfl)) ?_; (with_reducible refine (weigh_nat_up.calls kj8 (fun k_ => k_ < w.heap.size) _ _ l0 (wrap64 (a2 - (ji15))) t172 _ ?side1 A16.out).mono ?_); (case side1 => exact Kd.V_mk HC0.out (Kd.F_below (Kd.C_F (Kd.heap_int .u32) HR0.out) sqB)); rintro e w48 ⟨v173, rfl, ho0, hb⟩; refine ⟨_, rfl, ?_⟩; have n0_ := Aside0.mk (Kd.V_lower (Kd.V_mono (ok' := fun k_ => True) ho0 (fun k_ hk_ => trivial)) (below_size sqB)); have n1_ := Aside0.mk (below_step sqB hb); clear HB; have HO174 := n0_; have HB := n1_; clear n0_ n1_; (try clear hb); (try clear hb2); (try clear hk); (try clear hi); (try clear ho0)) | ((with_reducible refine gate_callee (f := 52) rfl ?_); refine goesL_ (some 44) rfl rfl Tryz.func52 (by kernel_rfl) rfl #[.slice A1 l1.length c1, .int .i64 (wrap64 ((ji15) - a2))] rfl (by (try simp only [List.map_toArray, List.map_cons, List.map_nil]); first | done | (simp only [hji15]; rfl) | rfl | (simp only [List.length_drop, List.length_take]; rfl)) ?_; (with_reducible refine (weigh_nat_up.calls kj8 (fun k_ => k_ < w.heap.size) _ _ l1 (wrap64 ((ji15) - a2)) t175 _ ?side1 A17.out).mono ?_); (case side1 => exact Kd.V_mk HC1.out (Kd.F_below (Kd.C_F (Kd.heap_int .u32) HR1.out) sqB)); rintro e w49 ⟨v176, rfl, ho0, hb⟩; refine ⟨_, rfl, ?_⟩; have n0_ := Aside0.mk (Kd.V_below (sqV HO174.out) hb); have n1_ := Aside0.mk (Kd.V_lower (Kd.V_mono (ok' := fun k_ => True) ho0 (fun k_ hk_ => trivial)) (below_size sqB)); have n2_ := Aside0.mk (below_step sqB hb); clear HO174; clear HB; have HO174 := n0_; have HO177 := n1_; have HB := n2_; clear n0_ n1_ n2_; (try clear hb); (try clear hb2); (try clear hk); (try clear hi); (try clear ho0); obtain ⟨Ao50, co50, eo50⟩ := Kd.V_slice HO174.out; subst eo50; obtain ⟨Ao51, co51, eo51⟩ := Kd.V_slice HO177.out; subst eo51) | ((with_reducible refine gate_callee (f := 54) rfl ?_); refine goesL_ (some 48) rfl rfl Tryz.func54 (by kernel_rfl) rfl #[.slice Ao50 t172.length co50, .slice Ao51 t175.length co51] rfl sqA ?_; (with_reducible refine (weigh_nat_over.calls kj8 (fun k_ => True) _ _ t172 (fun k_ => True) _ _ t175 t178 t179 _ ?side1 ?side2 A18.out).mono ?_); (case side1 => exact HO174.out); (case side2 => exact HO177.out); rintro e w52 ⟨v180, rfl, ho0, hb⟩; refine ⟨_, rfl, ?_⟩; have n0_ := Aside0.mk (Kd.V_below (sqV HO174.out) hb); have n1_ := Aside0.mk (Kd.V_below (sqV HO177.out) hb); have n2_ := Aside0.mk (Kd.V_lower (Kd.V_mono (ok' := fun k_ => True) ho0 (fun k_ hk_ => trivial)) (below_size sqB)); have n3_ := Aside0.mk (below_step sqB hb); clear HO174; clear HO177; clear HB; have HO174 := n0_; have HO177 := n1_; have HO181 := n2_; have HB := n3_; clear n0_ n1_ n2_ n3_; (try clear hb); (try clear hb2); (try clear hk); (try clear hi); (try clear ho0); obtain ⟨Ao53, co53, eo53⟩ := Kd.V_slice HO181.out; subst eo53) | ((with_reducible refine gate_callee (f := 55) rfl ?_); refine goesL_ (some 53) rfl rfl Tryz.func55 (by kernel_rfl) rfl #[.slice Ao53 t179.length co53, .slice Ao51 t175.length co51] rfl sqA ?_; (with_reducible refine (weigh_half.calls kj8 _ _ t179 _ _ t175 t182 _ ?side1 ?side2 ?side3 ?side4 A19.out).mono ?_); (case side1 => repeat (first | exact (Kd.V_reads' HO181.out).2.2 | (with_reducible refine Kd.C_alloc ?_ _) | (with_reducible refine Kd.C_drewN ?_ _) | (with_reducible refine Kd.C_drew ?_))); (case side2 => exact (Kd.V_reads' HO181.out).2.1); (case side3 => repeat (first | exact (Kd.V_reads' HO177.out).2.2 | (with_reducible refine Kd.C_alloc ?_ _) | (with_reducible refine Kd.C_drewN ?_ _) | (with_reducible refine Kd.C_drew ?_))); (case side4 => exact (Kd.V_reads' HO177.out).2.1); rintro e w54 ⟨rfl, hb⟩; refine ⟨_, rfl, ?_⟩; have n0_ := Aside0.mk (Kd.V_below (sqV HO174.out) hb); have n1_ := Aside0.mk (Kd.V_below (sqV HO177.out) hb); have n2_ := Aside0.mk (Kd.V_below (sqV HO181.out) hb); have n3_ := Aside0.mk (below_step sqB hb); clear HO174; clear HO177; clear HO181; clear HB; have HO174 := n0_; have HO177 := n1_; have HO181 := n2_; have HB := n3_; clear n0_ n1_ n2_ n3_; (try clear hb); (try clear hb2); (try clear hk); (try clear hi)) | ((with_reducible refine gate_callee (f := 56) rfl ?_); refine goesL_ (some 70) rfl rfl Tryz.func56 (by kernel_rfl) rfl #[.float .f64 (floatOfInt .f64 t178), .int .i64 ji15] rfl (by (try simp only [List.map_toArray, List.map_cons, List.map_nil]); first | done | (simp only [hji15]; rfl) | rfl | (simp only [List.length_drop, List.length_take]; rfl)) ?_; (with_reducible refine (math_Ldexp.calls (floatOfInt .f64 t178) ji15 t186 _ A47.out).mono ?_); rintro e w' ⟨rfl, ⟨nd, rfl⟩⟩; refine ⟨_, rfl, ?_⟩))
    go_ret
    exact ⟨by first | rfl | (simp [errW_none, errW_some] <;> rfl) | (simp only [← hji15]; first | rfl | (simp [errW_none, errW_some] <;> rfl)) | (simp [*, errW_none, errW_some] <;> rfl), sqB⟩
   rw [if_pos c29] at H
   have c29b0 := beq_iff_eq.mpr c29
   have c29b1 := bne_eq_false_iff_eq.mpr c29
   clear c29
   by_cases c30 : (Int.tmod t178 2) = 1
   ·rw [if_pos c30] at H
    have c30b0 := beq_iff_eq.mpr c30
    have c30b1 := bne_eq_false_iff_eq.mpr c30
    clear c30
    obtain ⟨t184, A31, H⟩ := sqO H
    try dsimp only at H
    obtain rfl := Option.some.inj H
    go_wp2_with (first | ((with_reducible refine gate_callee (f := 52) rfl ?_); refine goesL_ (some 39) rfl rfl Tryz.func52 (by kernel_rfl) rfl #[.slice A0 l0.length c0, .int .i64 (wrap64 (a2 - (ji15)))] rfl (by (try simp only [List.map_toArray, List.map_cons, List.map_nil]); first | done | (simp only [hji15]; rfl) | rfl | (simp only [List.length_drop, List.length_take]; rfl)) ?_; (with_reducible refine (weigh_nat_up.calls kj8 (fun k_ => k_ < w.heap.size) _ _ l0 (wrap64 (a2 - (ji15))) t172 _ ?side1 A16.out).mono ?_); (case side1 => exact Kd.V_mk HC0.out (Kd.F_below (Kd.C_F (Kd.heap_int .u32) HR0.out) sqB)); rintro e w32 ⟨v173, rfl, ho0, hb⟩; refine ⟨_, rfl, ?_⟩; have n0_ := Aside0.mk (Kd.V_lower (Kd.V_mono (ok' := fun k_ => True) ho0 (fun k_ hk_ => trivial)) (below_size sqB)); have n1_ := Aside0.mk (below_step sqB hb); clear HB; have HO174 := n0_; have HB := n1_; clear n0_ n1_; (try clear hb); (try clear hb2); (try clear hk); (try clear hi); (try clear ho0)) | ((with_reducible refine gate_callee (f := 52) rfl ?_); refine goesL_ (some 44) rfl rfl Tryz.func52 (by kernel_rfl) rfl #[.slice A1 l1.length c1, .int .i64 (wrap64 ((ji15) - a2))] rfl (by (try simp only [List.map_toArray, List.map_cons, List.map_nil]); first | done | (simp only [hji15]; rfl) | rfl | (simp only [List.length_drop, List.length_take]; rfl)) ?_; (with_reducible refine (weigh_nat_up.calls kj8 (fun k_ => k_ < w.heap.size) _ _ l1 (wrap64 ((ji15) - a2)) t175 _ ?side1 A17.out).mono ?_); (case side1 => exact Kd.V_mk HC1.out (Kd.F_below (Kd.C_F (Kd.heap_int .u32) HR1.out) sqB)); rintro e w33 ⟨v176, rfl, ho0, hb⟩; refine ⟨_, rfl, ?_⟩; have n0_ := Aside0.mk (Kd.V_below (sqV HO174.out) hb); have n1_ := Aside0.mk (Kd.V_lower (Kd.V_mono (ok' := fun k_ => True) ho0 (fun k_ hk_ => trivial)) (below_size sqB)); have n2_ := Aside0.mk (below_step sqB hb); clear HO174; clear HB; have HO174 := n0_; have HO177 := n1_; have HB := n2_; clear n0_ n1_ n2_; (try clear hb); (try clear hb2); (try clear hk); (try clear hi); (try clear ho0); obtain ⟨Ao34, co34, eo34⟩ := Kd.V_slice HO174.out; subst eo34; obtain ⟨Ao35, co35, eo35⟩ := Kd.V_slice HO177.out; subst eo35) | ((with_reducible refine gate_callee (f := 54) rfl ?_); refine goesL_ (some 48) rfl rfl Tryz.func54 (by kernel_rfl) rfl #[.slice Ao34 t172.length co34, .slice Ao35 t175.length co35] rfl sqA ?_; (with_reducible refine (weigh_nat_over.calls kj8 (fun k_ => True) _ _ t172 (fun k_ => True) _ _ t175 t178 t179 _ ?side1 ?side2 A18.out).mono ?_); (case side1 => exact HO174.out); (case side2 => exact HO177.out); rintro e w36 ⟨v180, rfl, ho0, hb⟩; refine ⟨_, rfl, ?_⟩; have n0_ := Aside0.mk (Kd.V_below (sqV HO174.out) hb); have n1_ := Aside0.mk (Kd.V_below (sqV HO177.out) hb); have n2_ := Aside0.mk (Kd.V_lower (Kd.V_mono (ok' := fun k_ => True) ho0 (fun k_ hk_ => trivial)) (below_size sqB)); have n3_ := Aside0.mk (below_step sqB hb); clear HO174; clear HO177; clear HB; have HO174 := n0_; have HO177 := n1_; have HO181 := n2_; have HB := n3_; clear n0_ n1_ n2_ n3_; (try clear hb); (try clear hb2); (try clear hk); (try clear hi); (try clear ho0); obtain ⟨Ao37, co37, eo37⟩ := Kd.V_slice HO181.out; subst eo37) | ((with_reducible refine gate_callee (f := 55) rfl ?_); refine goesL_ (some 53) rfl rfl Tryz.func55 (by kernel_rfl) rfl #[.slice Ao37 t179.length co37, .slice Ao35 t175.length co35] rfl sqA ?_; (with_reducible refine (weigh_half.calls kj8 _ _ t179 _ _ t175 t182 _ ?side1 ?side2 ?side3 ?side4 A19.out).mono ?_); (case side1 => repeat (first | exact (Kd.V_reads' HO181.out).2.2 | (with_reducible refine Kd.C_alloc ?_ _) | (with_reducible refine Kd.C_drewN ?_ _) | (with_reducible refine Kd.C_drew ?_))); (case side2 => exact (Kd.V_reads' HO181.out).2.1); (case side3 => repeat (first | exact (Kd.V_reads' HO177.out).2.2 | (with_reducible refine Kd.C_alloc ?_ _) | (with_reducible refine Kd.C_drewN ?_ _) | (with_reducible refine Kd.C_drew ?_))); (case side4 => exact (Kd.V_reads' HO177.out).2.1); rintro e w38 ⟨rfl, hb⟩; refine ⟨_, rfl, ?_⟩; have n0_ := Aside0.mk (Kd.V_below (sqV HO174.out) hb); have n1_ := Aside0.mk (Kd.V_below (sqV HO177.out) hb); have n2_ := Aside0.mk (Kd.V_below (sqV HO181.out) hb); have n3_ := Aside0.mk (below_step sqB hb); clear HO174; clear HO177; clear HO181; clear HB; have HO174 := n0_; have HO177 := n1_; have HO181 := n2_; have HB := n3_; clear n0_ n1_ n2_ n3_; (try clear hb); (try clear hb2); (try clear hk); (try clear hi)) | ((with_reducible refine gate_callee (f := 56) rfl ?_); refine goesL_ (some 70) rfl rfl Tryz.func56 (by kernel_rfl) rfl #[.float .f64 (floatOfInt .f64 (IntKind.u64.wrap (t178 + 1))), .int .i64 ji15] rfl (by (try simp only [List.map_toArray, List.map_cons, List.map_nil]); first | done | (simp only [hji15]; rfl) | rfl | (simp only [List.length_drop, List.length_take]; rfl)) ?_; (with_reducible refine (math_Ldexp.calls (floatOfInt .f64 (IntKind.u64.wrap (t178 + 1))) ji15 t184 _ A31.out).mono ?_); rintro e w' ⟨rfl, ⟨nd, rfl⟩⟩; refine ⟨_, rfl, ?_⟩))
    go_ret
    exact ⟨by first | rfl | (simp [errW_none, errW_some] <;> rfl) | (simp only [← hji15]; first | rfl | (simp [errW_none, errW_some] <;> rfl)) | (simp [*, errW_none, errW_some] <;> rfl), sqB⟩
   rw [if_neg c30] at H
   have c30b0 := beq_eq_false_iff_ne.mpr c30
   have c30b1 := bne_iff_ne.mpr c30
   obtain ⟨t185, A39, H⟩ := sqO H
   try dsimp only at H
   obtain rfl := Option.some.inj H
   go_wp2_with (first | ((with_reducible refine gate_callee (f := 52) rfl ?_); refine goesL_ (some 39) rfl rfl Tryz.func52 (by kernel_rfl) rfl #[.slice A0 l0.length c0, .int .i64 (wrap64 (a2 - (ji15)))] rfl (by (try simp only [List.map_toArray, List.map_cons, List.map_nil]); first | done | (simp only [hji15]; rfl) | rfl | (simp only [List.length_drop, List.length_take]; rfl)) ?_; (with_reducible refine (weigh_nat_up.calls kj8 (fun k_ => k_ < w.heap.size) _ _ l0 (wrap64 (a2 - (ji15))) t172 _ ?side1 A16.out).mono ?_); (case side1 => exact Kd.V_mk HC0.out (Kd.F_below (Kd.C_F (Kd.heap_int .u32) HR0.out) sqB)); rintro e w40 ⟨v173, rfl, ho0, hb⟩; refine ⟨_, rfl, ?_⟩; have n0_ := Aside0.mk (Kd.V_lower (Kd.V_mono (ok' := fun k_ => True) ho0 (fun k_ hk_ => trivial)) (below_size sqB)); have n1_ := Aside0.mk (below_step sqB hb); clear HB; have HO174 := n0_; have HB := n1_; clear n0_ n1_; (try clear hb); (try clear hb2); (try clear hk); (try clear hi); (try clear ho0)) | ((with_reducible refine gate_callee (f := 52) rfl ?_); refine goesL_ (some 44) rfl rfl Tryz.func52 (by kernel_rfl) rfl #[.slice A1 l1.length c1, .int .i64 (wrap64 ((ji15) - a2))] rfl (by (try simp only [List.map_toArray, List.map_cons, List.map_nil]); first | done | (simp only [hji15]; rfl) | rfl | (simp only [List.length_drop, List.length_take]; rfl)) ?_; (with_reducible refine (weigh_nat_up.calls kj8 (fun k_ => k_ < w.heap.size) _ _ l1 (wrap64 ((ji15) - a2)) t175 _ ?side1 A17.out).mono ?_); (case side1 => exact Kd.V_mk HC1.out (Kd.F_below (Kd.C_F (Kd.heap_int .u32) HR1.out) sqB)); rintro e w41 ⟨v176, rfl, ho0, hb⟩; refine ⟨_, rfl, ?_⟩; have n0_ := Aside0.mk (Kd.V_below (sqV HO174.out) hb); have n1_ := Aside0.mk (Kd.V_lower (Kd.V_mono (ok' := fun k_ => True) ho0 (fun k_ hk_ => trivial)) (below_size sqB)); have n2_ := Aside0.mk (below_step sqB hb); clear HO174; clear HB; have HO174 := n0_; have HO177 := n1_; have HB := n2_; clear n0_ n1_ n2_; (try clear hb); (try clear hb2); (try clear hk); (try clear hi); (try clear ho0); obtain ⟨Ao42, co42, eo42⟩ := Kd.V_slice HO174.out; subst eo42; obtain ⟨Ao43, co43, eo43⟩ := Kd.V_slice HO177.out; subst eo43) | ((with_reducible refine gate_callee (f := 54) rfl ?_); refine goesL_ (some 48) rfl rfl Tryz.func54 (by kernel_rfl) rfl #[.slice Ao42 t172.length co42, .slice Ao43 t175.length co43] rfl sqA ?_; (with_reducible refine (weigh_nat_over.calls kj8 (fun k_ => True) _ _ t172 (fun k_ => True) _ _ t175 t178 t179 _ ?side1 ?side2 A18.out).mono ?_); (case side1 => exact HO174.out); (case side2 => exact HO177.out); rintro e w44 ⟨v180, rfl, ho0, hb⟩; refine ⟨_, rfl, ?_⟩; have n0_ := Aside0.mk (Kd.V_below (sqV HO174.out) hb); have n1_ := Aside0.mk (Kd.V_below (sqV HO177.out) hb); have n2_ := Aside0.mk (Kd.V_lower (Kd.V_mono (ok' := fun k_ => True) ho0 (fun k_ hk_ => trivial)) (below_size sqB)); have n3_ := Aside0.mk (below_step sqB hb); clear HO174; clear HO177; clear HB; have HO174 := n0_; have HO177 := n1_; have HO181 := n2_; have HB := n3_; clear n0_ n1_ n2_ n3_; (try clear hb); (try clear hb2); (try clear hk); (try clear hi); (try clear ho0); obtain ⟨Ao45, co45, eo45⟩ := Kd.V_slice HO181.out; subst eo45) | ((with_reducible refine gate_callee (f := 55) rfl ?_); refine goesL_ (some 53) rfl rfl Tryz.func55 (by kernel_rfl) rfl #[.slice Ao45 t179.length co45, .slice Ao43 t175.length co43] rfl sqA ?_; (with_reducible refine (weigh_half.calls kj8 _ _ t179 _ _ t175 t182 _ ?side1 ?side2 ?side3 ?side4 A19.out).mono ?_); (case side1 => repeat (first | exact (Kd.V_reads' HO181.out).2.2 | (with_reducible refine Kd.C_alloc ?_ _) | (with_reducible refine Kd.C_drewN ?_ _) | (with_reducible refine Kd.C_drew ?_))); (case side2 => exact (Kd.V_reads' HO181.out).2.1); (case side3 => repeat (first | exact (Kd.V_reads' HO177.out).2.2 | (with_reducible refine Kd.C_alloc ?_ _) | (with_reducible refine Kd.C_drewN ?_ _) | (with_reducible refine Kd.C_drew ?_))); (case side4 => exact (Kd.V_reads' HO177.out).2.1); rintro e w46 ⟨rfl, hb⟩; refine ⟨_, rfl, ?_⟩; have n0_ := Aside0.mk (Kd.V_below (sqV HO174.out) hb); have n1_ := Aside0.mk (Kd.V_below (sqV HO177.out) hb); have n2_ := Aside0.mk (Kd.V_below (sqV HO181.out) hb); have n3_ := Aside0.mk (below_step sqB hb); clear HO174; clear HO177; clear HO181; clear HB; have HO174 := n0_; have HO177 := n1_; have HO181 := n2_; have HB := n3_; clear n0_ n1_ n2_ n3_; (try clear hb); (try clear hb2); (try clear hk); (try clear hi)) | ((with_reducible refine gate_callee (f := 56) rfl ?_); refine goesL_ (some 70) rfl rfl Tryz.func56 (by kernel_rfl) rfl #[.float .f64 (floatOfInt .f64 t178), .int .i64 ji15] rfl (by (try simp only [List.map_toArray, List.map_cons, List.map_nil]); first | done | (simp only [hji15]; rfl) | rfl | (simp only [List.length_drop, List.length_take]; rfl)) ?_; (with_reducible refine (math_Ldexp.calls (floatOfInt .f64 t178) ji15 t185 _ A39.out).mono ?_); rintro e w' ⟨rfl, ⟨nd, rfl⟩⟩; refine ⟨_, rfl, ?_⟩))
   go_ret
   exact ⟨by first | rfl | (simp [errW_none, errW_some] <;> rfl) | (simp only [← hji15]; first | rfl | (simp [errW_none, errW_some] <;> rfl)) | (simp [*, errW_none, errW_some] <;> rfl), sqB⟩
def weigh_natOf.f (k : Nat) (a0 : Int) : Option (List Int) := (weigh_trim.f k (([(a0) % 4294967296, (a0 / 4294967296) % 4294967296] : List Int))).bind fun t190 => (some t190)
theorem weigh_natOf.mono : ∀ a0 k, LeO (weigh_natOf.f k a0) (weigh_natOf.f (k + 1) a0) := by
 intro a0 k
 unfold weigh_natOf.f
 repeat' first | (with_reducible first | apply weigh_trim.mono | apply LeO.refl | apply LeO.none | refine LeO.ite ?_ ?_ | refine LeO.bind ?_ (fun _ => ?_)) | apply LeO.none | refine LeO.ite ?_ ?_ | refine LeO.bind ?_ (fun _ => ?_)
theorem weigh_natOf.calls (k : Nat) (a0 : Int) (r : List Int) (w : World) (h : weigh_natOf.f k a0 = some r) :
  Calls Tryz.prog 28 #[.int .u64 a0] w fun e w' => ∃ v0_ : Value, e = .returned (v0_) ∧ Kd.V (Kd.int .u32) 83 w' w.heap.size (fun k_ => (w.heap.size ≤ k_)) v0_ r ∧ Below w.heap.size w w' := by
 have HB := Aside0.mk (Below.refl w.heap.size w)
 have H : ((weigh_trim.f k (([(a0) % 4294967296, (a0 / 4294967296) % 4294967296] : List Int))).bind fun t190 => (some t190)) = some r := h
 clear h
 obtain ⟨y187, hy187⟩ : ∃ y_ : List Int, y_ = (([(a0) % 4294967296, (a0 / 4294967296) % 4294967296] : List Int)) := ⟨_, rfl⟩
 replace H : ((weigh_trim.f k y187).bind fun t190 => (some t190)) = some r := by first | (rw [hy187]; with_reducible exact H) | (have H2_ := (Option.bind_some _ _).symm.trans H; rw [hy187]; with_reducible exact H2_) | (have H2_ := (Option.bind_some _ _).symm.trans H; with_reducible exact H2_) | with_reducible exact H | (rw [hy187]; exact H) | exact H
 have Ny187 := Aside0.mk hy187
 clear hy187
 obtain ⟨t190, A2, H⟩ := sqO H
 try dsimp only at H
 obtain rfl := Option.some.inj H
 go_enter Tryz.func28, Tryz.ntmps28
 go_wp2_with (first | ((with_reducible refine gate_dst (N := 8) rfl ?_); refine Kd.R_lit (Kd.int .u32) _ 83 ?hg (N := 8) ?hd (xs := ([(a0) % 4294967296, (a0 / 4294967296) % 4294967296] : List Int)) (inner := [.int .u32 ((a0) % 4294967296), .int .u32 ((a0 / 4294967296) % 4294967296)]) (ok := fun _ => True) (okp := fun _ => True) ?hr ?hp (fun _ hk => hk) trivial (Below.refl _ _) (Nat.le_refl _) (by simp) ?_; (case hd => rfl); (case hg => rfl); (case hr => first | (go_simp; done) | (go_simp; rfl)); (case hp => exact (Reps.one (show Kd.M (Kd.int .u32) _ _ _ ((a0) % 4294967296) [.int .u32 ((a0) % 4294967296)] from rfl) (Reps.one (show Kd.M (Kd.int .u32) _ _ _ ((a0 / 4294967296) % 4294967296) [.int .u32 ((a0 / 4294967296) % 4294967296)] from rfl) (Reps.none _ _)))); intro v188 w3 ho4 hb hg_ hnew_; clear hg_ hnew_; (first | rw [← Ny187.out] at ho4 | (simp only [Int.reduceToNat] at ho4; rw [← Ny187.out] at ho4)); have n0_ := Aside0.mk (Kd.R_lower (Kd.R_newM (M := fun k_ => (w.heap.size ≤ k_)) ho4 (below_size sqB) (fun k_ h_ => h_)) (below_size sqB)); have n1_ := Aside0.mk (below_step sqB hb); clear HB; have HO189 := n0_; have HB := n1_; clear n0_ n1_; clear hb ho4; obtain ⟨Ao5, co5, eo5⟩ := Kd.R_slice HO189.out; subst eo5) | ((with_reducible refine gate_callee (f := 57) rfl ?_); refine goesL_ (some 9) rfl rfl Tryz.func57 (by kernel_rfl) rfl #[.slice Ao5 y187.length co5] rfl sqA ?_; (with_reducible refine (weigh_trim.calls k (fun k_ => some k_ = (.slice Ao5 y187.length co5 : Value).ownBlock) _ _ y187 t190 _ ?side1 A2.out).mono ?_); (case side1 => exact Kd.R_V (Kd.R_tight rfl (HO189.out))); rintro e w6 ⟨v191, rfl, ho0, hb⟩; refine ⟨_, rfl, ?_⟩; have n0_ := Aside0.mk (Kd.R_below (sqR HO189.out) hb); have n1_ := Aside0.mk (Kd.V_lower (Kd.V_mono (ok' := fun k_ => (w.heap.size ≤ k_)) ho0 (fun k_ hk_ => Or.elim hk_ (fun hs_ => ((HO189.out).1 k_ hs_.symm).1) (fun hn_ => (Nat.le_trans (below_size sqB) hn_)))) (below_size sqB)); have n2_ := Aside0.mk (below_step sqB hb); clear HO189; clear HB; have HO189 := n0_; have HO192 := n1_; have HB := n2_; clear n0_ n1_ n2_; (try clear hb); (try clear hb2); (try clear hk); (try clear hi); (try clear ho0)))
 go_ret
 exact ⟨_, sqE', sqV HO192.out, sqB⟩
def weigh_nat_times.l0 : Nat → List Int → Int → List Int → Int → List Int → Int → Int → Option (List Int)
 | 0, _, _, _, _, _, _, _ => none
 | k + 1, x0, x1, x5, x6, x14, x15, x16 => if x16 < x15 then (if 0 ≤ x16 then (if x16 < (x14.length : Int) then (if x16 < (x5.length : Int) then (weigh_nat_times.l0 k x0 x1 (x5.set (x16 : Int).toNat ((IntKind.u64.wrap ((IntKind.u64.wrap ((IntKind.u64.wrap (rd x14 x16)) * (IntKind.u64.wrap (x1)))) + x6)) % 4294967296)) ((IntKind.u64.wrap ((IntKind.u64.wrap ((IntKind.u64.wrap (rd x14 x16)) * (IntKind.u64.wrap (x1)))) + x6)) / 4294967296) x14 x15 (wrap64 (x16 + 1))) else (none)) else (none)) else (none)) else (if 0 ≤ (x0.length : Int) then (if (x0.length : Int) < (x5.length : Int) then ((weigh_trim.f k (x5.set ((x0.length : Int) : Int).toNat ((x6) % 4294967296))).bind fun t199 => (some t199)) else (none)) else (none))
def weigh_nat_times.f (k : Nat) (l0 : List Int) (a1 : Int) : Option (List Int) := if 0 ≤ (wrap64 ((l0.length : Int) + 1)) then (if (wrap64 ((l0.length : Int) + 1) : Int).toNat ≤ 70368744177664 then (weigh_nat_times.l0 k l0 a1 (List.replicate (wrap64 ((l0.length : Int) + 1) : Int).toNat 0) 0 l0 (l0.length : Int) 0) else (none)) else (none)
theorem weigh_nat_times.mono_l : ∀ k, (∀ y0 y1 y2 y3 y4 y5 y6, LeO (weigh_nat_times.l0 k y0 y1 y2 y3 y4 y5 y6) (weigh_nat_times.l0 (k + 1) y0 y1 y2 y3 y4 y5 y6))
 | 0 => fun _ _ _ _ _ _ _ r h => by simp [weigh_nat_times.l0] at h
 | k + 1 => by
  have ih0 := weigh_nat_times.mono_l k
  intro y0 y1 y2 y3 y4 y5 y6
  unfold weigh_nat_times.l0
  repeat' first | (with_reducible first | apply ih0 | apply weigh_trim.mono | apply LeO.refl | apply LeO.none | refine LeO.ite ?_ ?_ | refine LeO.bind ?_ (fun _ => ?_)) | apply LeO.none | refine LeO.ite ?_ ?_ | refine LeO.bind ?_ (fun _ => ?_)
theorem weigh_nat_times.mono : ∀ a0 a1 k, LeO (weigh_nat_times.f k a0 a1) (weigh_nat_times.f (k + 1) a0 a1) := by
 intro a0 a1 k
 have ih0 := weigh_nat_times.mono_l k
 unfold weigh_nat_times.f
 repeat' first | (with_reducible first | apply ih0 | apply weigh_trim.mono | apply LeO.refl | apply LeO.none | refine LeO.ite ?_ ?_ | refine LeO.bind ?_ (fun _ => ?_)) | apply LeO.none | refine LeO.ite ?_ ?_ | refine LeO.bind ?_ (fun _ => ?_)
theorem weigh_nat_times.calls (k : Nat) (A0 : Option Addr) (c0 : Nat) (l0 : List Int) (a1 : Int) (r : List Int) (w : World) (hr0 : Kd.C (Kd.int .u32) w A0 l0.length l0) (hc0 : l0.length ≤ c0) (h : weigh_nat_times.f k l0 a1 = some r) :
  Calls Tryz.prog 58 #[.slice A0 l0.length c0, .int .u32 a1] w fun e w' => ∃ v0_ : Value, e = .returned (v0_) ∧ Kd.V (Kd.int .u32) 83 w' w.heap.size (fun k_ => (w.heap.size ≤ k_)) v0_ r ∧ Below w.heap.size w w' := by
 have HR0 := Aside0.mk hr0
 have HC0 := Aside0.mk hc0
 clear hr0 hc0
 have HB := Aside0.mk (Below.refl w.heap.size w)
 have H : (if 0 ≤ (wrap64 ((l0.length : Int) + 1)) then (if (wrap64 ((l0.length : Int) + 1) : Int).toNat ≤ 70368744177664 then (weigh_nat_times.l0 k l0 a1 (List.replicate (wrap64 ((l0.length : Int) + 1) : Int).toNat 0) 0 l0 (l0.length : Int) 0) else (none)) else (none)) = some r := h
 clear h
 obtain ⟨ji3, hji3⟩ : ∃ j_ : Int, (wrap64 ((l0.length : Int) + 1)) = j_ := ⟨_, rfl⟩
 replace H : (if 0 ≤ (ji3) then (if (ji3 : Int).toNat ≤ 70368744177664 then (weigh_nat_times.l0 k l0 a1 (List.replicate (ji3 : Int).toNat 0) 0 l0 (l0.length : Int) 0) else (none)) else (none)) = some r := by first | (rw [hji3] at H; exact H) | (simp only [hji3] at H ⊢; exact H)
 have hji3w : (IntKind.i64.wrap ((l0.length : Int) + 1)) = ji3 := (i64_w _).trans hji3
 by_cases c4 : 0 ≤ (ji3)
 case neg => rw [if_neg c4] at H; exact absurd H (by simp)
 rw [if_pos c4] at H
 have c4b0 := eq_true c4
 have c4b1 := decide_eq_true c4
 clear c4
 by_cases c5 : (ji3 : Int).toNat ≤ 70368744177664
 case neg => rw [if_neg c5] at H; exact absurd H (by simp)
 rw [if_pos c5] at H
 have c5b0 := eq_true c5
 have c5b1 := decide_eq_true c5
 clear c5
 obtain ⟨y193, hy193⟩ : ∃ y_ : List Int, y_ = (List.replicate (ji3 : Int).toNat 0) := ⟨_, rfl⟩
 replace H : (weigh_nat_times.l0 k l0 a1 y193 0 l0 (l0.length : Int) 0) = some r := by first | (rw [hy193]; with_reducible exact H) | (have H2_ := (Option.bind_some _ _).symm.trans H; rw [hy193]; with_reducible exact H2_) | (have H2_ := (Option.bind_some _ _).symm.trans H; with_reducible exact H2_) | with_reducible exact H | (rw [hy193]; exact H) | exact H
 have Ny193 := Aside0.mk hy193
 clear hy193
 have H' := Aside0.mk H
 clear H
 go_enter Tryz.func58, Tryz.ntmps58
 go_wp2_with (first | ((with_reducible refine gate_dst (N := 13) rfl ?_); refine Kd.R_make (Kd.int .u32) _ 83 rfl (N := 13) rfl 53 _ _ rfl ji3 rfl rfl Tryz.underlying53 (.int .u32 0) 4 info83 rfl (by decide) (by omega) 0 (ok := fun _ => True) (okp := fun _ => True) rfl (fun _ hk => hk) trivial sqD (Nat.le_trans (Nat.mul_le_mul_right _ (sqD : ji3.toNat ≤ 70368744177664)) (by omega)) (Below.refl _ _) (Nat.le_refl _) ?_; intro v194 w6 ho7 hb hg_ hnew_; clear hg_ hnew_; (first | rw [← Ny193.out] at ho7 | (simp only [Int.reduceToNat] at ho7; rw [← Ny193.out] at ho7)); have n0_ := Aside0.mk (Kd.R_lower (Kd.R_newM (M := fun k_ => (w.heap.size ≤ k_)) ho7 (below_size sqB) (fun k_ h_ => h_)) (below_size sqB)); have n1_ := Aside0.mk (below_step sqB hb); clear HB; have HO195 := n0_; have HB := n1_; clear n0_ n1_; clear hb ho7))
 try simp only [Act.put, List.setIfInBounds_toArray, List.set_cons_zero, List.set_cons_succ]
 go_loopg [6, 16] k (fun kq v6 v16 w' => ∃ (x5_1 : List Int) (x6_1 : Int) (x16_1 : Int), v6 = .int .u64 x6_1 ∧ v16 = .int .i64 x16_1 ∧ Aside0 (weigh_nat_times.l0 kq l0 a1 x5_1 x6_1 l0 (l0.length : Int) x16_1 = some r) ∧ Aside0 (kq ≤ k) ∧ Aside0 (Kd.R (Kd.int .u32) 83 w' w.heap.size (fun k_ => (w.heap.size ≤ k_)) v194 x5_1) ∧ Aside0 (Below w.heap.size w w'))
 case atStart => exact ⟨(y193), (0), (0), sqE, sqE, H', ⟨Nat.le_refl _⟩, ⟨by (with_reducible repeat (first | apply Kd.R_alloc | apply Kd.R_drewN | apply Kd.R_drew)); exact Kd.R_mono HO195.out (fun _ hk => hk.1)⟩, ⟨sqB⟩⟩
 case round =>
  clear H'
  try clear p2
  try clear c4
  try clear c4b0
  try clear c4b1
  try clear c5
  try clear c5b0
  try clear c5b1
  try clear p6
  obtain ⟨x5_1, x6_1, x16_1, rfl, rfl, HA, HK1, HO_5, HB⟩ := hrel
  cases gk with
  | zero => exact absurd HA.out (by simp [weigh_nat_times.l0])
  | succ k1 =>
   have H := HA.out
   clear HA
   simp only [weigh_nat_times.l0] at H
   by_cases c8 : x16_1 < (l0.length : Int)
   case neg =>
    rw [if_neg c8] at H
    have c8b0 := decide_eq_false c8
    clear c8
    by_cases c15 : 0 ≤ (l0.length : Int)
    case neg => rw [if_neg c15] at H; exact absurd H (by simp)
    rw [if_pos c15] at H
    have c15b0 := decide_eq_true c15
    have c15b1 : decide (0 ≤ l0.length) = true := decide_eq_true (by omega)
    clear c15
    by_cases c16 : (l0.length : Int) < (x5_1.length : Int)
    case neg => rw [if_neg c16] at H; exact absurd H (by simp)
    rw [if_pos c16] at H
    have c16b0 := decide_eq_true c16
    have c16b1 : decide (l0.length < x5_1.length) = true := decide_eq_true (Int.ofNat_lt.mp c16)
    clear c16
    obtain ⟨y198, hy198⟩ : ∃ y_ : List Int, y_ = (x5_1.set ((l0.length : Int) : Int).toNat ((x6_1) % 4294967296)) := ⟨_, rfl⟩
    replace H : ((weigh_trim.f k1 y198).bind fun t199 => (some t199)) = some r := by first | (rw [hy198]; with_reducible exact H) | (have H2_ := (Option.bind_some _ _).symm.trans H; rw [hy198]; with_reducible exact H2_) | (have H2_ := (Option.bind_some _ _).symm.trans H; with_reducible exact H2_) | with_reducible exact H | (rw [hy198]; exact H) | exact H
    have Ny198 := Aside0.mk hy198
    clear hy198
    obtain ⟨t199, A18, H⟩ := sqO H
    try dsimp only at H
    obtain rfl := Option.some.inj H
    have p17 : 0 ≤ ((l0.length : Int) : Int) := sqD
    have q17 : ((l0.length : Int) : Int) < ((x5_1.length : Int) : Int) := sqD
    obtain ⟨go17, co17, eo17, gb17, gl17, cl17, HG17⟩ := Kd.R_form HO_5.out (by omega)
    (first | cases eo17 | (injection eo17 with ea_ en_ ec_; (first | subst ea_ | (injection ea_ with ea_; subst ea_)); subst ec_; clear en_))
    have GB17 := Aside0.mk gb17
    have GG17 := Aside0.mk HG17
    clear gb17 gl17 HG17
    obtain ⟨hx17_0, hf17_0⟩ := Kd.R_celln 0 HO_5.out ((l0.length : Int) : Int) p17 q17
    (try (have hx17_0b := hx17_0; simp only [Int.toNat_natCast] at hx17_0b))
    (try (have hf17_0b := hf17_0; simp only [Int.toNat_natCast] at hf17_0b))
    replace p17 := eq_true p17
    replace q17 := eq_true q17
    have HP19 := Kd.R_putg HO_5.out ((l0.length : Int) : Int) ((x6_1) % 4294967296)
    go_wp2_with (first | ((with_reducible refine gate_store (t := 83) (p := 41) rfl ?_); refine store_event (t := 83) (p := 41) (v := ?vo_w20) (w1 := (wr.setCell ⟨go17, ((l0.length : Int) : Int).toNat, none⟩ (.int .u32 ((x6_1) % 4294967296)))) ?hg ?ho ?hn ?hr ?_; (case ho => rfl); (case hg => rfl); (case hn => rfl); (case hr => first | (go_simp; done) | (go_simp; rfl)); intro w20 hw; have hg : wr.grownBy w20 (some go17) := (by rw [hw]; exact HP19.2); have hp_ : Kd.R (Kd.int .u32) 83 w20 w.heap.size (fun k_ => (w.heap.size ≤ k_)) (.slice (some ⟨go17, 0, none⟩) x5_1.length co17) y198 := (by rw [hw, Ny198.out]; exact HP19.1); clear HP19; have n0_ := Aside0.mk (hp_); have n1_ := Aside0.mk ((by rw [hw]; exact below_set (HB.out) GB17.out : Below w.heap.size w w20)); clear HO_5; clear HB; have HO_5 := n0_; have HB := n1_; clear n0_ n1_; clear hg hw hp_) | ((with_reducible refine gate_callee (f := 57) rfl ?_); refine goesL_ (some 43) rfl rfl Tryz.func57 (by kernel_rfl) rfl #[.slice (some ⟨go17, 0, none⟩) y198.length co17] rfl (by (try simp only [List.map_toArray, List.map_cons, List.map_nil]); first | done | (rw [show y198.length = x5_1.length from (Kd.R_reads' HO_5.out).1.symm] <;> rfl) | rfl | (simp only [List.length_drop, List.length_take]; rfl)) ?_; (with_reducible refine (weigh_trim.calls k1 (fun k_ => some k_ = (.slice (some ⟨go17, 0, none⟩) x5_1.length co17 : Value).ownBlock) _ _ y198 t199 _ ?side1 A18.out).mono ?_); (case side1 => rw [show y198.length = x5_1.length from (Kd.R_reads' HO_5.out).1.symm]; exact Kd.R_V (Kd.R_tight rfl (HO_5.out))); rintro e w21 ⟨v200, rfl, ho0, hb⟩; refine ⟨_, rfl, ?_⟩; have n0_ := Aside0.mk (Kd.R_below (sqR HO_5.out) hb); have n1_ := Aside0.mk (Kd.V_lower (Kd.V_mono (ok' := fun k_ => (w.heap.size ≤ k_)) ho0 (fun k_ hk_ => Or.elim hk_ (fun hs_ => ((HO_5.out).1 k_ hs_.symm)) (fun hn_ => (Nat.le_trans (below_size sqB) hn_)))) (below_size sqB)); have n2_ := Aside0.mk (below_step sqB hb); clear HO_5; clear HB; have HO_5 := n0_; have HO201 := n1_; have HB := n2_; clear n0_ n1_ n2_; (try clear hb); (try clear hb2); (try clear hk); (try clear hi); (try clear ho0)))
    go_ret
    exact ⟨_, by first | rfl | (simp [errW_none, errW_some] <;> rfl) | (simp only [← hji3]; first | rfl | (simp [errW_none, errW_some] <;> rfl)) | (simp [*, errW_none, errW_some] <;> rfl), sqV HO201.out, sqB⟩
   rw [if_pos c8] at H
   have c8b0 := decide_eq_true c8
   clear c8
   by_cases c9 : 0 ≤ x16_1
   case neg => rw [if_neg c9] at H; exact absurd H (by simp)
   rw [if_pos c9] at H
   have c9b0 := decide_eq_true c9
   clear c9
   by_cases c10 : x16_1 < (l0.length : Int)
   case neg => rw [if_neg c10] at H; exact absurd H (by simp)
   rw [if_pos c10] at H
   have c10b0 := decide_eq_true c10
   clear c10
   by_cases c11 : x16_1 < (x5_1.length : Int)
   case neg => rw [if_neg c11] at H; exact absurd H (by simp)
   rw [if_pos c11] at H
   have c11b0 := decide_eq_true c11
   clear c11
   obtain ⟨y197, hy197⟩ : ∃ y_ : List Int, y_ = (x5_1.set (x16_1 : Int).toNat ((IntKind.u64.wrap ((IntKind.u64.wrap ((IntKind.u64.wrap (rd l0 x16_1)) * (IntKind.u64.wrap (a1)))) + x6_1)) % 4294967296)) := ⟨_, rfl⟩
   replace H : (weigh_nat_times.l0 k1 l0 a1 y197 ((IntKind.u64.wrap ((IntKind.u64.wrap ((IntKind.u64.wrap (rd l0 x16_1)) * (IntKind.u64.wrap (a1)))) + x6_1)) / 4294967296) l0 (l0.length : Int) (wrap64 (x16_1 + 1))) = some r := by first | (rw [hy197]; with_reducible exact H) | (have H2_ := (Option.bind_some _ _).symm.trans H; rw [hy197]; with_reducible exact H2_) | (have H2_ := (Option.bind_some _ _).symm.trans H; with_reducible exact H2_) | with_reducible exact H | (rw [hy197]; exact H) | exact H
   have Ny197 := Aside0.mk hy197
   clear hy197
   have H' := Aside0.mk H
   clear H
   have p196 : 0 ≤ (x16_1 : Int) := sqD
   have q196 : x16_1 < (l0.length : Int) := sqD
   obtain ⟨ad196, e196, hx196_0⟩ := Kd.at_int HR0.out x16_1 p196 q196
   cases e196
   replace hx196_0 := (HB.out.cell (World.block_lt_of_cell? w _ hx196_0)).trans hx196_0
   replace p196 := eq_true p196
   replace q196 := eq_true q196
   have p12 : 0 ≤ (x16_1 : Int) := sqD
   have q12 : (x16_1 : Int) < ((x5_1.length : Int) : Int) := sqD
   obtain ⟨go12, co12, eo12, gb12, gl12, cl12, HG12⟩ := Kd.R_form HO_5.out (by omega)
   (first | cases eo12 | (injection eo12 with ea_ en_ ec_; (first | subst ea_ | (injection ea_ with ea_; subst ea_)); subst ec_; clear en_))
   have GB12 := Aside0.mk gb12
   have GG12 := Aside0.mk HG12
   clear gb12 gl12 HG12
   obtain ⟨hx12_0, hf12_0⟩ := Kd.R_celln 0 HO_5.out (x16_1 : Int) p12 q12
   replace p12 := eq_true p12
   replace q12 := eq_true q12
   have HP13 := Kd.R_putg HO_5.out (x16_1 : Int) ((IntKind.u64.wrap ((IntKind.u64.wrap ((IntKind.u64.wrap (rd l0 x16_1)) * (IntKind.u64.wrap (a1)))) + x6_1)) % 4294967296)
   go_wp2_with (first | ((with_reducible refine gate_store (t := 83) (p := 32) rfl ?_); refine store_event (t := 83) (p := 32) (v := ?vo_w14) (w1 := (wr.setCell ⟨go12, (x16_1 : Int).toNat, none⟩ (.int .u32 ((IntKind.u64.wrap ((IntKind.u64.wrap ((IntKind.u64.wrap (rd l0 x16_1)) * (IntKind.u64.wrap (a1)))) + x6_1)) % 4294967296)))) ?hg ?ho ?hn ?hr ?_; (case ho => rfl); (case hg => rfl); (case hn => rfl); (case hr => first | (go_simp; done) | (go_simp; rfl)); intro w14 hw; have hg : wr.grownBy w14 (some go12) := (by rw [hw]; exact HP13.2); have hp_ : Kd.R (Kd.int .u32) 83 w14 w.heap.size (fun k_ => (w.heap.size ≤ k_)) (.slice (some ⟨go12, 0, none⟩) x5_1.length co12) y197 := (by rw [hw, Ny197.out]; exact HP13.1); clear HP13; have n0_ := Aside0.mk (hp_); have n1_ := Aside0.mk ((by rw [hw]; exact below_set (HB.out) GB12.out : Below w.heap.size w w14)); clear HO_5; clear HB; have HO_5 := n0_; have HB := n1_; clear n0_ n1_; clear hg hw hp_))
   go_roundg k1
   case measure => have := HK1.out; omega
   case rel => exact ⟨(y197), ((IntKind.u64.wrap ((IntKind.u64.wrap ((IntKind.u64.wrap (rd l0 x16_1)) * (IntKind.u64.wrap (a1)))) + x6_1)) / 4294967296), (wrap64 (x16_1 + 1)), sqE, sqE, H', ⟨by have := HK1.out; omega⟩, ⟨sqR HO_5.out⟩, ⟨sqB⟩⟩
mutual
def weigh_nat_ten.l0 : Nat → List Int → Int → Option (List Int)
 | 0, _, _ => none
 | k + 1, x0, x1 => if x1 ≥ 9 then ((weigh_nat_times.f k x0 1000000000).bind fun t202 => (weigh_nat_ten.l0 k t202 (wrap64 (x1 - 9)))) else (weigh_nat_ten.l1 k x0 x1)
def weigh_nat_ten.l1 : Nat → List Int → Int → Option (List Int)
 | 0, _, _ => none
 | k + 1, x0, x1 => if x1 > 0 then ((weigh_nat_times.f k x0 10).bind fun t205 => (weigh_nat_ten.l1 k t205 (wrap64 (x1 - 1)))) else (some x0)
end
def weigh_nat_ten.f (k : Nat) (l0 : List Int) (a1 : Int) : Option (List Int) := weigh_nat_ten.l0 k l0 a1
theorem weigh_nat_ten.mono_l : ∀ k, (∀ y0 y1, LeO (weigh_nat_ten.l0 k y0 y1) (weigh_nat_ten.l0 (k + 1) y0 y1)) ∧ (∀ y0 y1, LeO (weigh_nat_ten.l1 k y0 y1) (weigh_nat_ten.l1 (k + 1) y0 y1))
 | 0 => ⟨fun _ _ r h => by simp [weigh_nat_ten.l0] at h, fun _ _ r h => by simp [weigh_nat_ten.l1] at h⟩
 | k + 1 => by
  obtain ⟨ih0, ih1⟩ := weigh_nat_ten.mono_l k
  refine ⟨?_, ?_⟩
  ·intro y0 y1
   unfold weigh_nat_ten.l0
   repeat' first | (with_reducible first | apply ih0 | apply ih1 | apply weigh_nat_times.mono | apply LeO.refl | apply LeO.none | refine LeO.ite ?_ ?_ | refine LeO.bind ?_ (fun _ => ?_)) | apply LeO.none | refine LeO.ite ?_ ?_ | refine LeO.bind ?_ (fun _ => ?_)
  intro y0 y1
  unfold weigh_nat_ten.l1
  repeat' first | (with_reducible first | apply ih0 | apply ih1 | apply weigh_nat_times.mono | apply LeO.refl | apply LeO.none | refine LeO.ite ?_ ?_ | refine LeO.bind ?_ (fun _ => ?_)) | apply LeO.none | refine LeO.ite ?_ ?_ | refine LeO.bind ?_ (fun _ => ?_)
theorem weigh_nat_ten.mono : ∀ a0 a1 k, LeO (weigh_nat_ten.f k a0 a1) (weigh_nat_ten.f (k + 1) a0 a1) := by
 intro a0 a1 k
 obtain ⟨ih0, ih1⟩ := weigh_nat_ten.mono_l k
 unfold weigh_nat_ten.f
 repeat' first | (with_reducible first | apply ih0 | apply ih1 | apply weigh_nat_times.mono | apply LeO.refl | apply LeO.none | refine LeO.ite ?_ ?_ | refine LeO.bind ?_ (fun _ => ?_)) | apply LeO.none | refine LeO.ite ?_ ?_ | refine LeO.bind ?_ (fun _ => ?_)
theorem weigh_nat_ten.calls (k : Nat) (P0_ : Nat → Prop) (A0 : Option Addr) (c0 : Nat) (l0 : List Int) (a1 : Int) (r : List Int) (w : World) (hs0 : Kd.V (Kd.int .u32) 83 w w.heap.size (fun k_ => P0_ k_) (.slice A0 l0.length c0) l0) (h : weigh_nat_ten.f k l0 a1 = some r) :
  Calls Tryz.prog 29 #[.slice A0 l0.length c0, .int .i64 a1] w fun e w' => ∃ v0_ : Value, e = .returned (v0_) ∧ Kd.V (Kd.int .u32) 83 w' w.heap.size (fun k_ => (P0_ k_ ∨ w.heap.size ≤ k_)) v0_ r ∧ Below w.heap.size w w' := by
 have HO0 := Aside0.mk (show Kd.V (Kd.int .u32) 83 w w.heap.size (fun k_ => (P0_ k_ ∨ w.heap.size ≤ k_)) (.slice A0 l0.length c0) l0 from Kd.V_mono hs0 (fun k_ hk => .inl hk))
 have HB := Aside0.mk (Below.refl w.heap.size w)
 have H : (weigh_nat_ten.l0 k l0 a1) = some r := h
 clear h
 have H' := Aside0.mk H
 clear H
 go_enter Tryz.func29, Tryz.ntmps29
 go_wp2
 go_loopg [0, 1] k (fun kq v0 v1 w' => ∃ (x0_1 : List Int) (x1_1 : Int), v1 = .int .i64 x1_1 ∧ Aside0 (weigh_nat_ten.l0 kq x0_1 x1_1 = some r) ∧ Aside0 (kq ≤ k) ∧ Aside0 (Kd.V (Kd.int .u32) 83 w' w.heap.size (fun k_ => (P0_ k_ ∨ w.heap.size ≤ k_)) v0 x0_1) ∧ Aside0 (Below w.heap.size w w'))
 case atStart => exact ⟨(l0), (a1), sqE, H', ⟨Nat.le_refl _⟩, ⟨sqV HO0.out⟩, ⟨sqB⟩⟩
 case round =>
  clear H'
  try clear c2
  try clear p2
  obtain ⟨x0_1, x1_1, rfl, HA, HK1, HO_0, HB⟩ := hrel
  cases gk with
  | zero => exact absurd HA.out (by simp [weigh_nat_ten.l0])
  | succ k1 =>
   have H := HA.out
   clear HA
   simp only [weigh_nat_ten.l0] at H
   by_cases c3 : x1_1 ≥ 9
   ·rw [if_pos c3] at H
    have c3b0 := decide_eq_true c3
    clear c3
    obtain ⟨t202, A4, H⟩ := sqO H
    try dsimp only at H
    have H' := Aside0.mk H
    clear H
    obtain ⟨Ao5, co5, eo5⟩ := Kd.V_slice HO_0.out
    subst eo5
    go_wp2_with (first | ((with_reducible refine gate_callee (f := 58) rfl ?_); refine goesL_ (some 10) rfl rfl Tryz.func58 (by kernel_rfl) rfl #[.slice Ao5 x0_1.length co5, .int .u32 1000000000] rfl sqA ?_; (with_reducible refine (weigh_nat_times.calls k1 _ _ x0_1 1000000000 t202 _ ?side1 ?side2 A4.out).mono ?_); (case side1 => repeat (first | exact (Kd.V_reads' HO_0.out).2.2 | (with_reducible refine Kd.C_alloc ?_ _) | (with_reducible refine Kd.C_drewN ?_ _) | (with_reducible refine Kd.C_drew ?_))); (case side2 => exact (Kd.V_reads' HO_0.out).2.1); rintro e w6 ⟨v203, rfl, ho0, hb⟩; refine ⟨_, rfl, ?_⟩; have n0_ := Aside0.mk (Kd.V_below (sqV HO_0.out) hb); have n1_ := Aside0.mk (Kd.V_lower (Kd.V_mono (ok' := fun k_ => (P0_ k_ ∨ w.heap.size ≤ k_)) ho0 (fun k_ hk_ => (.inr (Nat.le_trans (below_size sqB) hk_)))) (below_size sqB)); have n2_ := Aside0.mk (below_step sqB hb); clear HO_0; clear HB; have HO_0 := n0_; have HO204 := n1_; have HB := n2_; clear n0_ n1_ n2_; (try clear hb); (try clear hb2); (try clear hk); (try clear hi); (try clear ho0)))
    go_roundg k1
    case measure => have := HK1.out; omega
    case rel => exact ⟨(t202), (wrap64 (x1_1 - 9)), sqE, H', ⟨by have := HK1.out; omega⟩, ⟨sqV HO204.out⟩, ⟨sqB⟩⟩
   rw [if_neg c3] at H
   have c3b0 := decide_eq_false c3
   clear c3
   have H' := Aside0.mk H
   clear H
   go_wp2
   go_loopg [0, 1] k1 (fun kq v0 v1 w' => ∃ (x0_2 : List Int) (x1_2 : Int), v1 = .int .i64 x1_2 ∧ Aside0 (weigh_nat_ten.l1 kq x0_2 x1_2 = some r) ∧ Aside0 (kq ≤ k1) ∧ Aside0 (Kd.V (Kd.int .u32) 83 w' w.heap.size (fun k_ => (P0_ k_ ∨ w.heap.size ≤ k_)) v0 x0_2) ∧ Aside0 (Below w.heap.size w w'))
   case atStart => exact ⟨(x0_1), (x1_1), sqE, H', ⟨Nat.le_refl _⟩, ⟨sqV HO_0.out⟩, ⟨sqB⟩⟩
   case round =>
    clear H'
    try clear c2
    try clear p2
    try clear c3
    try clear c3b0
    try clear c5
    try clear p6
    try clear p2
    obtain ⟨x0_2, x1_2, rfl, HA, HK2, HO_0, HB⟩ := hrel
    cases gk with
    | zero => exact absurd HA.out (by simp [weigh_nat_ten.l1])
    | succ k2 =>
     have H := HA.out
     clear HA
     simp only [weigh_nat_ten.l1] at H
     by_cases c7 : x1_2 > 0
     case neg =>
      rw [if_neg c7] at H
      have c7b0 := decide_eq_false c7
      clear c7
      obtain rfl := Option.some.inj H
      go_wp2
      go_ret
      exact ⟨_, sqE', sqV HO_0.out, sqB⟩
     rw [if_pos c7] at H
     have c7b0 := decide_eq_true c7
     clear c7
     obtain ⟨t205, A8, H⟩ := sqO H
     try dsimp only at H
     have H' := Aside0.mk H
     clear H
     obtain ⟨Ao9, co9, eo9⟩ := Kd.V_slice HO_0.out
     subst eo9
     go_wp2_with (first | ((with_reducible refine gate_callee (f := 58) rfl ?_); refine goesL_ (some 16) rfl rfl Tryz.func58 (by kernel_rfl) rfl #[.slice Ao9 x0_2.length co9, .int .u32 10] rfl sqA ?_; (with_reducible refine (weigh_nat_times.calls k2 _ _ x0_2 10 t205 _ ?side1 ?side2 A8.out).mono ?_); (case side1 => repeat (first | exact (Kd.V_reads' HO_0.out).2.2 | (with_reducible refine Kd.C_alloc ?_ _) | (with_reducible refine Kd.C_drewN ?_ _) | (with_reducible refine Kd.C_drew ?_))); (case side2 => exact (Kd.V_reads' HO_0.out).2.1); rintro e w10 ⟨v206, rfl, ho0, hb⟩; refine ⟨_, rfl, ?_⟩; have n0_ := Aside0.mk (Kd.V_below (sqV HO_0.out) hb); have n1_ := Aside0.mk (Kd.V_lower (Kd.V_mono (ok' := fun k_ => (P0_ k_ ∨ w.heap.size ≤ k_)) ho0 (fun k_ hk_ => (.inr (Nat.le_trans (below_size sqB) hk_)))) (below_size sqB)); have n2_ := Aside0.mk (below_step sqB hb); clear HO_0; clear HB; have HO_0 := n0_; have HO207 := n1_; have HB := n2_; clear n0_ n1_ n2_; (try clear hb); (try clear hb2); (try clear hk); (try clear hi); (try clear ho0)))
     go_roundg k2
     case measure => have := HK1.out; have := HK2.out; omega
     case rel => exact ⟨(t205), (wrap64 (x1_2 - 1)), sqE, H', ⟨by have := HK1.out; have := HK2.out; omega⟩, ⟨sqV HO207.out⟩, ⟨sqB⟩⟩
end Go.Proofs.YtfmjdoofopamkaaGreatDoor.W
