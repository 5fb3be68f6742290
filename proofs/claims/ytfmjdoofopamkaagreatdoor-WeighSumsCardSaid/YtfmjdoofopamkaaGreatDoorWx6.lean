import Derived.Test.YtfmjdoofopamkaaGreatDoorWx0
import Derived.Test.YtfmjdoofopamkaaGreatDoorWx1
import Derived.Test.YtfmjdoofopamkaaGreatDoorWx2
import Derived.Test.YtfmjdoofopamkaaGreatDoorWx3
import Derived.Test.YtfmjdoofopamkaaGreatDoorWx4
import Derived.Test.YtfmjdoofopamkaaGreatDoorWx5
namespace Go.Proofs.YtfmjdoofopamkaaGreatDoor.W
open Go.RowKit Go.Proofs.YtfmjdoofopamkaaGreatDoorW.PrintWords Go.Proofs.YtfmjdoofopamkaaGreatDoorW.PrintLast Go.Proofs.YtfmjdoofopamkaaGreatDoorW.PrintMore
set_option maxHeartbeats 8000000
set_option maxRecDepth 100000
attribute [local go_sem] max2_int min2_int max_two min_two max_three min_three max_four min_four
set_option linter.unusedVariables false
set_option linter.unusedSimpArgs false
mutual
def weigh_Parse.j0 : Nat → ByteArray → Int → Bool → Option (Nat × Int)
 | 0, _, _, _ => none
 | k + 1, x0, x5, x36 => if x36 = true then (some ((0 : Nat), 20)) else ((weigh_read.f k x0).bind fun bt213 => (if bt213.1 > 0 then ((weigh_natOf.f k bt213.1).bind fun t215 => ((weigh_nat_ten.f k t215 (wrap64 (x5 - bt213.2))).bind fun t218 => ((weigh_natOf.f k 1).bind fun t221 => ((weigh_nat_ten.f k t221 (wrap64 (-(wrap64 (x5 - bt213.2))))).bind fun t224 => ((weigh_rounded.f k t218 t224 0).bind fun t227 => (weigh_Parse.j1 k x0 t227)))))) else (weigh_Parse.j1 k x0 (0 : Nat))))
def weigh_Parse.j1 : Nat → ByteArray → Nat → Option (Nat × Int)
 | 0, _, _ => none
 | k + 1, x0, x9 => (math_IsInf.f x9 0).bind fun t228 => (if t228 = true then (some ((0 : Nat), 21)) else (if 0 < (x0.size : Int) then (if (bt x0 0) = 45 then ((math_Copysign.f x9 (13830554455654793216 : Nat)).bind fun t229 => (some (t229, 0))) else (some (x9, 0))) else (none)))
end
def weigh_Parse.f (k : Nat) (a0 : ByteArray) : Option (Nat × Int) := if a0.toList = ([105, 110, 102] : List UInt8) then ((math_Inf.f 1).bind fun t208 => (some (t208, 0))) else (if a0.toList = ([45, 105, 110, 102] : List UInt8) then ((math_Inf.f (-1)).bind fun t209 => (some (t209, 0))) else ((weigh_form.f k a0).bind fun bt210 => (if bt210.2.2 = true then (if bt210.1 > 17 then (weigh_Parse.j0 k a0 bt210.2.1 true) else (if bt210.2.1 < (-400) then (weigh_Parse.j0 k a0 bt210.2.1 true) else (weigh_Parse.j0 k a0 bt210.2.1 (decide (bt210.2.1 > 400))))) else (weigh_Parse.j0 k a0 bt210.2.1 true))))
theorem weigh_Parse.mono_l : ∀ k, (∀ y0 y1 y2, LeO (weigh_Parse.j0 k y0 y1 y2) (weigh_Parse.j0 (k + 1) y0 y1 y2)) ∧ (∀ y0 y1, LeO (weigh_Parse.j1 k y0 y1) (weigh_Parse.j1 (k + 1) y0 y1))
 | 0 => ⟨fun _ _ _ r h => by simp [weigh_Parse.j0] at h, fun _ _ r h => by simp [weigh_Parse.j1] at h⟩
 | k + 1 => by
  obtain ⟨ih0, ih1⟩ := weigh_Parse.mono_l k
  refine ⟨?_, ?_⟩
  ·intro y0 y1 y2
   unfold weigh_Parse.j0
   repeat' first | (with_reducible first | apply ih0 | apply ih1 | apply weigh_form.mono | apply weigh_natOf.mono | apply weigh_nat_ten.mono | apply weigh_read.mono | apply weigh_rounded.mono | apply LeO.refl | apply LeO.none | refine LeO.ite ?_ ?_ | refine LeO.bind ?_ (fun _ => ?_)) | apply LeO.none | refine LeO.ite ?_ ?_ | refine LeO.bind ?_ (fun _ => ?_)
  intro y0 y1
  unfold weigh_Parse.j1
  repeat' first | (with_reducible first | apply ih0 | apply ih1 | apply weigh_form.mono | apply weigh_natOf.mono | apply weigh_nat_ten.mono | apply weigh_read.mono | apply weigh_rounded.mono | apply LeO.refl | apply LeO.none | refine LeO.ite ?_ ?_ | refine LeO.bind ?_ (fun _ => ?_)) | apply LeO.none | refine LeO.ite ?_ ?_ | refine LeO.bind ?_ (fun _ => ?_)
theorem weigh_Parse.mono : ∀ a0 k, LeO (weigh_Parse.f k a0) (weigh_Parse.f (k + 1) a0) := by
 intro a0 k
 obtain ⟨ih0, ih1⟩ := weigh_Parse.mono_l k
 unfold weigh_Parse.f
 repeat' first | (with_reducible first | apply ih0 | apply ih1 | apply weigh_form.mono | apply weigh_natOf.mono | apply weigh_nat_ten.mono | apply weigh_read.mono | apply weigh_rounded.mono | apply LeO.refl | apply LeO.none | refine LeO.ite ?_ ?_ | refine LeO.bind ?_ (fun _ => ?_)) | apply LeO.none | refine LeO.ite ?_ ?_ | refine LeO.bind ?_ (fun _ => ?_)
theorem weigh_Parse.calls (k : Nat) (a0 : ByteArray) (r1 : Nat) (r2 : Int) (w : World) (h : weigh_Parse.f k a0 = some (r1, r2)) :
  Calls Tryz.prog 7 #[.string a0] w fun e w' => e = .returned (.tuple #[.float .f64 r1, .int .i64 r2]) ∧ Below w.heap.size w w' := by
 have HB := Aside0.mk (Below.refl w.heap.size w)
 have H : (if a0.toList = ([105, 110, 102] : List UInt8) then ((math_Inf.f 1).bind fun t208 => (some (t208, 0))) else (if a0.toList = ([45, 105, 110, 102] : List UInt8) then ((math_Inf.f (-1)).bind fun t209 => (some (t209, 0))) else ((weigh_form.f k a0).bind fun bt210 => (if bt210.2.2 = true then (if bt210.1 > 17 then (weigh_Parse.j0 k a0 bt210.2.1 true) else (if bt210.2.1 < (-400) then (weigh_Parse.j0 k a0 bt210.2.1 true) else (weigh_Parse.j0 k a0 bt210.2.1 (decide (bt210.2.1 > 400))))) else (weigh_Parse.j0 k a0 bt210.2.1 true))))) = some (r1, r2) := h
 clear h
 by_cases c2 : a0.toList = ([105, 110, 102] : List UInt8)
 ·rw [if_pos c2] at H
  have c2b0 := beq_iff_eq.mpr c2
  have c2b1 := bne_eq_false_iff_eq.mpr c2
  clear c2
  obtain ⟨t208, A3, H⟩ := sqO H
  try dsimp only at H
  simp only [Option.some.injEq, Prod.mk.injEq] at H
  obtain ⟨rfl, rfl⟩ := H
  go_enter Tryz.func7, Tryz.ntmps7
  go_wp2_with (first | ((with_reducible refine gate_callee (f := 24) rfl ?_); refine goesL_ (some 13) rfl rfl Tryz.func24 (by kernel_rfl) rfl #[.int .i64 1] rfl sqA ?_; (with_reducible refine (math_Inf.calls 1 t208 _ A3.out).mono ?_); rintro e w' ⟨rfl, ⟨nd, rfl⟩⟩; refine ⟨_, rfl, ?_⟩))
  go_ret2
  exact ⟨sqE', sqB⟩
 rw [if_neg c2] at H
 have c2b0 := beq_eq_false_iff_ne.mpr c2
 have c2b1 := bne_iff_ne.mpr c2
 by_cases c4 : a0.toList = ([45, 105, 110, 102] : List UInt8)
 ·rw [if_pos c4] at H
  have c4b0 := beq_iff_eq.mpr c4
  have c4b1 := bne_eq_false_iff_eq.mpr c4
  clear c4
  obtain ⟨t209, A5, H⟩ := sqO H
  try dsimp only at H
  simp only [Option.some.injEq, Prod.mk.injEq] at H
  obtain ⟨rfl, rfl⟩ := H
  go_enter Tryz.func7, Tryz.ntmps7
  go_wp2_with (first | ((with_reducible refine gate_callee (f := 24) rfl ?_); refine goesL_ (some 16) rfl rfl Tryz.func24 (by kernel_rfl) rfl #[.int .i64 (-1)] rfl sqA ?_; (with_reducible refine (math_Inf.calls (-1) t209 _ A5.out).mono ?_); rintro e w' ⟨rfl, ⟨nd, rfl⟩⟩; refine ⟨_, rfl, ?_⟩))
  go_ret2
  exact ⟨sqE', sqB⟩
 rw [if_neg c4] at H
 have c4b0 := beq_eq_false_iff_ne.mpr c4
 have c4b1 := bne_iff_ne.mpr c4
 obtain ⟨⟨t210, t211, t212⟩, A6, H⟩ := sqO H
 try dsimp only at H
 have HC7 := Aside0.mk H
 clear H
 go_enter Tryz.func7, Tryz.ntmps7
 go_upto_region 7 with (first | ((with_reducible refine gate_callee (f := 25) rfl ?_); refine goesL_ (some 19) rfl rfl Tryz.func25 (by kernel_rfl) rfl #[.string a0] rfl sqA ?_; (with_reducible refine (weigh_form.calls k a0 t210 t211 t212 _ A6.out).mono ?_); rintro e w' ⟨rfl, ⟨nd, rfl⟩⟩; refine ⟨_, rfl, ?_⟩))
 (try simp only [Act.put, List.setIfInBounds_toArray, List.set_cons_zero, List.set_cons_succ])
 go_cut [36] (fun v36 wc => ∃ (kq : Nat) (x36_6 : Bool), v36 = .bool x36_6 ∧ Aside0 (weigh_Parse.j0 kq a0 t211 x36_6 = some (r1, r2)) ∧ Aside0 (kq ≤ k) ∧ Aside0 (Below w.heap.size w wc))
 case first =>
  have H := HC7.out
  clear HC7
  by_cases c8 : t212 = true
  case neg =>
   replace c8 := Bool.eq_false_iff.mpr c8
   subst c8
   have H1 : (weigh_Parse.j0 k a0 t211 true) = some (r1, r2) := by rw [if_neg (show ¬ (false = true) by decide)] at H; exact H
   clear H
   have H := H1
   clear H1
   have H' := Aside0.mk H
   clear H
   go_wp2
   go_meet
   case rel => exact ⟨_, (true), sqE, H', ⟨by first | omega | exact Nat.le_refl _⟩, ⟨sqB⟩⟩
  subst c8
  have H1 : (if t210 > 17 then (weigh_Parse.j0 k a0 t211 true) else (if t211 < (-400) then (weigh_Parse.j0 k a0 t211 true) else (weigh_Parse.j0 k a0 t211 (decide (t211 > 400))))) = some (r1, r2) := by rw [if_pos rfl] at H; exact H
  clear H
  have H := H1
  clear H1
  by_cases c9 : t210 > 17
  ·rw [if_pos c9] at H
   have c9b0 := decide_eq_true c9
   clear c9
   (first | rw [c9b0] | (simp only [i64_w, i32_w]; rw [c9b0]) | skip)
   have H' := Aside0.mk H
   clear H
   go_wp2
   go_meet
   case rel => exact ⟨_, (true), sqE, H', ⟨by first | omega | exact Nat.le_refl _⟩, ⟨sqB⟩⟩
  rw [if_neg c9] at H
  have c9b0 := decide_eq_false c9
  clear c9
  (first | rw [c9b0] | (simp only [i64_w, i32_w]; rw [c9b0]) | skip)
  by_cases c10 : t211 < (-400)
  ·rw [if_pos c10] at H
   have c10b0 := decide_eq_true c10
   clear c10
   have H' := Aside0.mk H
   clear H
   go_wp2
   go_meet
   case rel => exact ⟨_, (true), sqE, H', ⟨by first | omega | exact Nat.le_refl _⟩, ⟨sqB⟩⟩
  rw [if_neg c10] at H
  have c10b0 := decide_eq_false c10
  clear c10
  have H' := Aside0.mk H
  clear H
  go_wp2
  go_meet
  case rel => exact ⟨_, (decide (t211 > 400)), sqE, H', ⟨by first | omega | exact Nat.le_refl _⟩, ⟨sqB⟩⟩
 case rest =>
  clear HC7
  try clear c1
  try clear c2
  try clear c2b0
  try clear c2b1
  try clear p2
  try clear c4
  try clear c4b0
  try clear c4b1
  try clear c7
  try clear c8
  try clear c9
  try clear c9b0
  try clear c10
  try clear c10b0
  obtain ⟨kq, x36_6, rfl, HA, HJ6, HB⟩ := hcut
  cases kq with
  | zero => exact absurd HA.out (by simp [weigh_Parse.j0])
  | succ kj6 =>
   have H := HA.out
   clear HA
   simp only [weigh_Parse.j0] at H
   by_cases c11 : x36_6 = true
   ·subst c11
    have H1 : (some ((0 : Nat), 20)) = some (r1, r2) := by rw [if_pos rfl] at H; exact H
    clear H
    have H := H1
    clear H1
    simp only [Option.some.injEq, Prod.mk.injEq] at H
    obtain ⟨rfl, rfl⟩ := H
    go_wp2
    go_ret2
    exact ⟨sqE', sqB⟩
   replace c11 := Bool.eq_false_iff.mpr c11
   subst c11
   have H1 : ((weigh_read.f kj6 a0).bind fun bt213 => (if bt213.1 > 0 then ((weigh_natOf.f kj6 bt213.1).bind fun t215 => ((weigh_nat_ten.f kj6 t215 (wrap64 (t211 - bt213.2))).bind fun t218 => ((weigh_natOf.f kj6 1).bind fun t221 => ((weigh_nat_ten.f kj6 t221 (wrap64 (-(wrap64 (t211 - bt213.2))))).bind fun t224 => ((weigh_rounded.f kj6 t218 t224 0).bind fun t227 => (weigh_Parse.j1 kj6 a0 t227)))))) else (weigh_Parse.j1 kj6 a0 (0 : Nat)))) = some (r1, r2) := by rw [if_neg (show ¬ (false = true) by decide)] at H; exact H
   clear H
   have H := H1
   clear H1
   obtain ⟨⟨t213, t214⟩, A12, H⟩ := sqO H
   try dsimp only at H
   have HC13 := Aside0.mk H
   clear H
   go_upto_if 43 with (first | ((with_reducible refine gate_callee (f := 26) rfl ?_); refine goesL_ (some 39) rfl rfl Tryz.func26 (by kernel_rfl) rfl #[.string a0] rfl sqA ?_; (with_reducible refine (weigh_read.calls kj6 a0 t213 t214 _ A12.out).mono ?_); rintro e w' ⟨rfl, ⟨nd, rfl⟩⟩; refine ⟨_, rfl, ?_⟩))
   (try simp only [Act.put, List.setIfInBounds_toArray, List.set_cons_zero, List.set_cons_succ])
   go_cut [9] (fun v9 wc => ∃ (kq : Nat) (x9_12 : Nat), v9 = .float .f64 x9_12 ∧ Aside0 (weigh_Parse.j1 kq a0 x9_12 = some (r1, r2)) ∧ Aside0 (kq ≤ kj6) ∧ Aside0 (Below w.heap.size w wc))
   case first =>
    have H := HC13.out
    clear HC13
    by_cases c14 : t213 > 0
    case neg =>
     rw [if_neg c14] at H
     have c14b0 := decide_eq_false c14
     clear c14
     (first | rw [c14b0] | (simp only [i64_w, i32_w]; rw [c14b0]) | skip)
     have H' := Aside0.mk H
     clear H
     go_wp2
     go_meet
     case rel => exact ⟨_, ((0 : Nat)), sqE, H', ⟨by have := HJ6.out; first | omega | exact Nat.le_refl _⟩, ⟨sqB⟩⟩
    rw [if_pos c14] at H
    have c14b0 := decide_eq_true c14
    clear c14
    (first | rw [c14b0] | (simp only [i64_w, i32_w]; rw [c14b0]) | skip)
    obtain ⟨t215, A15, H⟩ := sqO H
    try dsimp only at H
    obtain ⟨t218, A16, H⟩ := sqO H
    try dsimp only at H
    obtain ⟨t221, A17, H⟩ := sqO H
    try dsimp only at H
    obtain ⟨t224, A18, H⟩ := sqO H
    try dsimp only at H
    obtain ⟨t227, A19, H⟩ := sqO H
    try dsimp only at H
    have H' := Aside0.mk H
    clear H
    go_wp2_with (first | ((with_reducible refine gate_callee (f := 28) rfl ?_); refine goesL_ (some 48) rfl rfl Tryz.func28 (by kernel_rfl) rfl #[.int .u64 t213] rfl sqA ?_; (with_reducible refine (weigh_natOf.calls kj6 t213 t215 _ A15.out).mono ?_); rintro e w20 ⟨v216, rfl, ho0, hb⟩; refine ⟨_, rfl, ?_⟩; have n0_ := Aside0.mk (Kd.V_lower (Kd.V_mono (ok' := fun k_ => True) ho0 (fun k_ hk_ => trivial)) (below_size sqB)); have n1_ := Aside0.mk (below_step sqB hb); clear HB; have HO217 := n0_; have HB := n1_; clear n0_ n1_; (try clear hb); (try clear hb2); (try clear hk); (try clear hi); (try clear ho0); obtain ⟨Ao21, co21, eo21⟩ := Kd.V_slice HO217.out; subst eo21) | ((with_reducible refine gate_callee (f := 29) rfl ?_); refine goesL_ (some 50) rfl rfl Tryz.func29 (by kernel_rfl) rfl #[.slice Ao21 t215.length co21, .int .i64 (wrap64 (t211 - t214))] rfl sqA ?_; (with_reducible refine (weigh_nat_ten.calls kj6 (fun k_ => True) _ _ t215 (wrap64 (t211 - t214)) t218 _ ?side1 A16.out).mono ?_); (case side1 => exact HO217.out); rintro e w22 ⟨v219, rfl, ho0, hb⟩; refine ⟨_, rfl, ?_⟩; have n0_ := Aside0.mk (Kd.V_below (sqV HO217.out) hb); have n1_ := Aside0.mk (Kd.V_lower (Kd.V_mono (ok' := fun k_ => True) ho0 (fun k_ hk_ => trivial)) (below_size sqB)); have n2_ := Aside0.mk (below_step sqB hb); clear HO217; clear HB; have HO217 := n0_; have HO220 := n1_; have HB := n2_; clear n0_ n1_ n2_; (try clear hb); (try clear hb2); (try clear hk); (try clear hi); (try clear ho0)) | ((with_reducible refine gate_callee (f := 28) rfl ?_); refine goesL_ (some 51) rfl rfl Tryz.func28 (by kernel_rfl) rfl #[.int .u64 1] rfl sqA ?_; (with_reducible refine (weigh_natOf.calls kj6 1 t221 _ A17.out).mono ?_); rintro e w23 ⟨v222, rfl, ho0, hb⟩; refine ⟨_, rfl, ?_⟩; have n0_ := Aside0.mk (Kd.V_below (sqV HO217.out) hb); have n1_ := Aside0.mk (Kd.V_below (sqV HO220.out) hb); have n2_ := Aside0.mk (Kd.V_lower (Kd.V_mono (ok' := fun k_ => True) ho0 (fun k_ hk_ => trivial)) (below_size sqB)); have n3_ := Aside0.mk (below_step sqB hb); clear HO217; clear HO220; clear HB; have HO217 := n0_; have HO220 := n1_; have HO223 := n2_; have HB := n3_; clear n0_ n1_ n2_ n3_; (try clear hb); (try clear hb2); (try clear hk); (try clear hi); (try clear ho0); obtain ⟨Ao24, co24, eo24⟩ := Kd.V_slice HO223.out; subst eo24) | ((with_reducible refine gate_callee (f := 29) rfl ?_); refine goesL_ (some 54) rfl rfl Tryz.func29 (by kernel_rfl) rfl #[.slice Ao24 t221.length co24, .int .i64 (wrap64 (-(wrap64 (t211 - t214))))] rfl sqA ?_; (with_reducible refine (weigh_nat_ten.calls kj6 (fun k_ => True) _ _ t221 (wrap64 (-(wrap64 (t211 - t214)))) t224 _ ?side1 A18.out).mono ?_); (case side1 => exact HO223.out); rintro e w25 ⟨v225, rfl, ho0, hb⟩; refine ⟨_, rfl, ?_⟩; have n0_ := Aside0.mk (Kd.V_below (sqV HO217.out) hb); have n1_ := Aside0.mk (Kd.V_below (sqV HO220.out) hb); have n2_ := Aside0.mk (Kd.V_below (sqV HO223.out) hb); have n3_ := Aside0.mk (Kd.V_lower (Kd.V_mono (ok' := fun k_ => True) ho0 (fun k_ hk_ => trivial)) (below_size sqB)); have n4_ := Aside0.mk (below_step sqB hb); clear HO217; clear HO220; clear HO223; clear HB; have HO217 := n0_; have HO220 := n1_; have HO223 := n2_; have HO226 := n3_; have HB := n4_; clear n0_ n1_ n2_ n3_ n4_; (try clear hb); (try clear hb2); (try clear hk); (try clear hi); (try clear ho0); obtain ⟨Ao26, co26, eo26⟩ := Kd.V_slice HO220.out; subst eo26; obtain ⟨Ao27, co27, eo27⟩ := Kd.V_slice HO226.out; subst eo27) | ((with_reducible refine gate_callee (f := 27) rfl ?_); refine goesL_ (some 55) rfl rfl Tryz.func27 (by kernel_rfl) rfl #[.slice Ao26 t218.length co26, .slice Ao27 t224.length co27, .int .i64 0] rfl sqA ?_; (with_reducible refine (weigh_rounded.calls kj6 _ _ t218 _ _ t224 0 t227 _ ?side1 ?side2 ?side3 ?side4 A19.out).mono ?_); (case side1 => repeat (first | exact (Kd.V_reads' HO220.out).2.2 | (with_reducible refine Kd.C_alloc ?_ _) | (with_reducible refine Kd.C_drewN ?_ _) | (with_reducible refine Kd.C_drew ?_))); (case side2 => exact (Kd.V_reads' HO220.out).2.1); (case side3 => repeat (first | exact (Kd.V_reads' HO226.out).2.2 | (with_reducible refine Kd.C_alloc ?_ _) | (with_reducible refine Kd.C_drewN ?_ _) | (with_reducible refine Kd.C_drew ?_))); (case side4 => exact (Kd.V_reads' HO226.out).2.1); rintro e w28 ⟨rfl, hb⟩; refine ⟨_, rfl, ?_⟩; have n0_ := Aside0.mk (Kd.V_below (sqV HO217.out) hb); have n1_ := Aside0.mk (Kd.V_below (sqV HO220.out) hb); have n2_ := Aside0.mk (Kd.V_below (sqV HO223.out) hb); have n3_ := Aside0.mk (Kd.V_below (sqV HO226.out) hb); have n4_ := Aside0.mk (below_step sqB hb); clear HO217; clear HO220; clear HO223; clear HO226; clear HB; have HO217 := n0_; have HO220 := n1_; have HO223 := n2_; have HO226 := n3_; have HB := n4_; clear n0_ n1_ n2_ n3_ n4_; (try clear hb); (try clear hb2); (try clear hk); (try clear hi)))
    go_meet
    case rel => exact ⟨_, (t227), sqE, H', ⟨by have := HJ6.out; first | omega | exact Nat.le_refl _⟩, ⟨sqB⟩⟩
   case rest =>
    clear HC13
    try clear c1
    try clear c2
    try clear c2b0
    try clear c2b1
    try clear p2
    try clear c4
    try clear c4b0
    try clear c4b1
    try clear p6
    try clear c7
    try clear c8
    try clear c9
    try clear c9b0
    try clear c10
    try clear c10b0
    try clear c11
    try clear c14
    try clear c14b0
    try clear c24
    try clear c25
    try clear c26
    try clear c27
    try clear c28
    try clear p2
    obtain ⟨kq, x9_12, rfl, HA, HJ12, HB⟩ := hcut
    cases kq with
    | zero => exact absurd HA.out (by simp [weigh_Parse.j1])
    | succ kj12 =>
     have H := HA.out
     clear HA
     simp only [weigh_Parse.j1] at H
     obtain ⟨t228, A29, H⟩ := sqO H
     try dsimp only at H
     by_cases c30 : t228 = true
     ·subst c30
      have H1 : (some ((0 : Nat), 21)) = some (r1, r2) := by rw [if_pos rfl] at H; exact H
      clear H
      have H := H1
      clear H1
      simp only [Option.some.injEq, Prod.mk.injEq] at H
      obtain ⟨rfl, rfl⟩ := H
      go_wp2_with (first | ((with_reducible refine gate_callee (f := 30) rfl ?_); refine goesL_ (some 57) rfl rfl Tryz.func30 (by kernel_rfl) rfl #[.float .f64 x9_12, .int .i64 0] rfl sqA ?_; (with_reducible refine (math_IsInf.calls x9_12 0 true _ A29.out).mono ?_); rintro e w' ⟨rfl, ⟨nd, rfl⟩⟩; refine ⟨_, rfl, ?_⟩))
      go_ret2
      exact ⟨sqE', sqB⟩
     replace c30 := Bool.eq_false_iff.mpr c30
     subst c30
     have H1 : (if 0 < (a0.size : Int) then (if (bt a0 0) = 45 then ((math_Copysign.f x9_12 (13830554455654793216 : Nat)).bind fun t229 => (some (t229, 0))) else (some (x9_12, 0))) else (none)) = some (r1, r2) := by rw [if_neg (show ¬ (false = true) by decide)] at H; exact H
     clear H
     have H := H1
     clear H1
     by_cases c31 : 0 < (a0.size : Int)
     case neg => rw [if_neg c31] at H; exact absurd H (by simp)
     rw [if_pos c31] at H
     have c31b0 := decide_eq_true c31
     have c31b1 : decide (0 < a0.size) = true := decide_eq_true (by omega)
     clear c31
     by_cases c33 : (bt a0 0) = 45
     case neg =>
      rw [if_neg c33] at H
      have c33b0 := beq_eq_false_iff_ne.mpr c33
      have c33b1 := bne_iff_ne.mpr c33
      simp only [Option.some.injEq, Prod.mk.injEq] at H
      obtain ⟨rfl, rfl⟩ := H
      go_wp2_with (first | ((with_reducible refine gate_callee (f := 30) rfl ?_); refine goesL_ (some 57) rfl rfl Tryz.func30 (by kernel_rfl) rfl #[.float .f64 x9_12, .int .i64 0] rfl sqA ?_; (with_reducible refine (math_IsInf.calls x9_12 0 false _ A29.out).mono ?_); rintro e w' ⟨rfl, ⟨nd, rfl⟩⟩; refine ⟨_, rfl, ?_⟩; have p32 : 0 ≤ (0 : Int) := (by omega); have q32 : 0 < a0.size := (by have : (0 : Int) < (a0.size : Int) := sqD; omega); have hx32 : ∀ h : 0 < a0.size, ((a0[0]'h).toNat : Int) = bt a0 0 := bt_at a0 0; clear p32; have qi32 : (0 < (a0.size : Int)) = True := eq_true sqD; replace q32 := eq_true q32))
      go_ret2
      exact ⟨sqE', sqB⟩
     rw [if_pos c33] at H
     have c33b0 := beq_iff_eq.mpr c33
     have c33b1 := bne_eq_false_iff_eq.mpr c33
     clear c33
     obtain ⟨t229, A34, H⟩ := sqO H
     try dsimp only at H
     simp only [Option.some.injEq, Prod.mk.injEq] at H
     obtain ⟨rfl, rfl⟩ := H
     go_wp2_with (first | ((with_reducible refine gate_callee (f := 30) rfl ?_); refine goesL_ (some 57) rfl rfl Tryz.func30 (by kernel_rfl) rfl #[.float .f64 x9_12, .int .i64 0] rfl sqA ?_; (with_reducible refine (math_IsInf.calls x9_12 0 false _ A29.out).mono ?_); rintro e w' ⟨rfl, ⟨nd, rfl⟩⟩; refine ⟨_, rfl, ?_⟩; have p32 : 0 ≤ (0 : Int) := (by omega); have q32 : 0 < a0.size := (by have : (0 : Int) < (a0.size : Int) := sqD; omega); have hx32 : ∀ h : 0 < a0.size, ((a0[0]'h).toNat : Int) = bt a0 0 := bt_at a0 0; clear p32; have qi32 : (0 < (a0.size : Int)) = True := eq_true sqD; replace q32 := eq_true q32) | ((with_reducible refine gate_callee (f := 31) rfl ?_); refine goesL_ (some 62) rfl rfl Tryz.func31 (by kernel_rfl) rfl #[.float .f64 x9_12, .float .f64 (13830554455654793216 : Nat)] rfl sqA ?_; (with_reducible refine (math_Copysign.calls x9_12 (13830554455654793216 : Nat) t229 _ A34.out).mono ?_); rintro e w' ⟨rfl, ⟨nd, rfl⟩⟩; refine ⟨_, rfl, ?_⟩))
     go_ret2
     exact ⟨sqE', sqB⟩
def math_Signbit.f (a0 : Nat) : Option (Bool) := some (decide ((wrap64 (((a0 : Nat) : Int))) < 0))
theorem math_Signbit.calls (a0 : Nat) (r : Bool) (w : World) (h : math_Signbit.f a0 = some r) :
  Calls Tryz.prog 37 #[.float .f64 a0] w fun e w' => e = .returned (.bool r) ∧ Drawn0 w w' := by
 have H : (some (decide ((wrap64 (((a0 : Nat) : Int))) < 0))) = some r := h
 clear h
 have hf2 := fun w_ : World => Rm.x_Float64bits a0 w_
 obtain rfl := Option.some.inj H
 go_enter Tryz.func37, Tryz.ntmps37
 go_wp2
 go_ret
 exact ⟨sqE, sqW⟩
-- NOT PRINTED: function 67 (math_archFloor)
-- NOT PRINTED: function 111 (math_archTrunc)
def math_Floor.f (a0 : Nat) : Option (Nat) := (Rm.archFloorP a0).bind fun t234 => (some t234)
theorem math_Floor.calls (a0 : Nat) (r : Nat) (w : World) (h : math_Floor.f a0 = some r) :
  Calls Tryz.prog 38 #[.float .f64 a0] w fun e w' => e = .returned (.float .f64 r) ∧ Drawn0 w w' := by
 have H : ((Rm.archFloorP a0).bind fun t234 => (some t234)) = some r := h
 clear h
 replace H := Option.bind_eq_some_iff.mp H
 obtain ⟨t234, A20, H⟩ := H
 try dsimp only at H
 have hf3 := fun w_ : World => Rm.x_archFloor a0 t234 A20 w_
 clear A20
 obtain rfl := Option.some.inj H
 go_enter Tryz.func38, Tryz.ntmps38
 go_wp2
 go_ret
 exact ⟨sqE, sqW⟩
-- NOT PRINTED: function 69 (math_archLog10)
-- NOT PRINTED: function 106 (math_archLog)
-- NOT PRINTED: function 119 (math_archFrexp)
def math_frexp.j0 : Nat → Nat → Bool → Option (Nat × Int)
 | 0, _, _ => none
 | k + 1, x0, x9 => if x9 = true then (some (x0, 0)) else ((math_normalize.f x0).bind fun bt237 => (some (((Go.bits .or .u64 (Go.bits .andNot .u64 ((bt237.1 : Nat) : Int) 9218868437227405312) 4602678819172646912) : Int).toNat, wrap64 (bt237.2 + (wrap64 ((wrap64 ((wrap64 (Go.bits .and .u64 (((bt237.1 : Nat) : Int) / 4503599627370496) 2047)) - 1023)) + 1))))))
def math_frexp.f (k : Nat) (a0 : Nat) : Option (Nat × Int) := if (FloatKind.f64.format.order a0 (0 : Nat) == some .eq) = true then (some (a0, 0)) else ((math_IsInf.f a0 0).bind fun t235 => (if t235 = true then (math_frexp.j0 k a0 true) else ((math_IsNaN.f a0).bind fun t236 => (math_frexp.j0 k a0 t236))))
theorem math_frexp.mono_l : ∀ k, (∀ y0 y1, LeO (math_frexp.j0 k y0 y1) (math_frexp.j0 (k + 1) y0 y1))
 | 0 => fun _ _ r h => by simp [math_frexp.j0] at h
 | k + 1 => by
  have ih0 := math_frexp.mono_l k
  intro y0 y1
  unfold math_frexp.j0
  repeat' first | (with_reducible first | apply ih0 | apply LeO.refl | apply LeO.none | refine LeO.ite ?_ ?_ | refine LeO.bind ?_ (fun _ => ?_)) | apply LeO.none | refine LeO.ite ?_ ?_ | refine LeO.bind ?_ (fun _ => ?_)
theorem math_frexp.mono : ∀ a0 k, LeO (math_frexp.f k a0) (math_frexp.f (k + 1) a0) := by
 intro a0 k
 have ih0 := math_frexp.mono_l k
 unfold math_frexp.f
 repeat' first | (with_reducible first | apply ih0 | apply LeO.refl | apply LeO.none | refine LeO.ite ?_ ?_ | refine LeO.bind ?_ (fun _ => ?_)) | apply LeO.none | refine LeO.ite ?_ ?_ | refine LeO.bind ?_ (fun _ => ?_)
theorem math_frexp.calls (k : Nat) (a0 : Nat) (r1 : Nat) (r2 : Int) (w : World) (h : math_frexp.f k a0 = some (r1, r2)) :
  Calls Tryz.prog 120 #[.float .f64 a0] w fun e w' => e = .returned (.tuple #[.float .f64 r1, .int .i64 r2]) ∧ Drawn0 w w' := by
 have H : (if (FloatKind.f64.format.order a0 (0 : Nat) == some .eq) = true then (some (a0, 0)) else ((math_IsInf.f a0 0).bind fun t235 => (if t235 = true then (math_frexp.j0 k a0 true) else ((math_IsNaN.f a0).bind fun t236 => (math_frexp.j0 k a0 t236))))) = some (r1, r2) := h
 clear h
 by_cases c2 : (FloatKind.f64.format.order a0 (0 : Nat) == some .eq) = true
 ·rw [if_pos c2] at H
  have c2b0 : (FloatKind.f64.format.order a0 (0 : Nat) == some .eq) = true := c2
  (try (have c2b1 : decide (FloatKind.f64.format.order a0 (0 : Nat) = some .eq) = true := by simpa using c2))
  (try (have c2b2 : (FloatKind.f64.format.order a0 (0 : Nat) == some .eq) = true := by simpa using c2))
  clear c2
  simp only [Option.some.injEq, Prod.mk.injEq] at H
  obtain ⟨rfl, rfl⟩ := H
  go_enter Tryz.func120, Tryz.ntmps120
  go_wp2
  go_ret2
  exact ⟨sqE, sqW⟩
 rw [if_neg c2] at H
 have c2b0 : (FloatKind.f64.format.order a0 (0 : Nat) == some .eq) = false := by simpa using c2
 (try (have c2b1 : decide (FloatKind.f64.format.order a0 (0 : Nat) = some .eq) = false := by simpa using c2))
 (try (have c2b2 : (FloatKind.f64.format.order a0 (0 : Nat) == some .eq) = false := by simpa using c2))
 (try (have c2b3 : ¬ (FloatKind.f64.format.order a0 (0 : Nat) = some .eq) := by simpa using c2))
 clear c2
 have HC3 := Aside0.mk H
 clear H
 go_enter Tryz.func120, Tryz.ntmps120
 go_upto_region 3 with (fail)
 go_cut [9] (fun v9 wc => ∃ (kq : Nat) (x9_2 : Bool), v9 = .bool x9_2 ∧ Aside0 (math_frexp.j0 kq a0 x9_2 = some (r1, r2)) ∧ Aside0 (kq ≤ k) ∧ Drawn0 w wc)
 case first =>
  have H := HC3.out
  clear HC3
  obtain ⟨t235, A4, H⟩ := sqO H
  try dsimp only at H
  by_cases c5 : t235 = true
  ·subst c5
   have H1 : (math_frexp.j0 k a0 true) = some (r1, r2) := by rw [if_pos rfl] at H; exact H
   clear H
   have H := H1
   clear H1
   have H' := Aside0.mk H
   clear H
   go_wp2_with (first | ((with_reducible refine gate_callee (f := 30) rfl ?_); refine goesL_ (some 11) rfl rfl Tryz.func30 (by kernel_rfl) rfl #[.float .f64 a0, .int .i64 0] rfl sqA ?_; (with_reducible refine (math_IsInf.calls a0 0 true _ A4.out).mono ?_); rintro e w' ⟨rfl, ⟨nd, rfl⟩⟩; refine ⟨_, rfl, ?_⟩))
   go_meet
   case rel => exact ⟨_, (true), sqE, H', ⟨by first | omega | exact Nat.le_refl _⟩, sqW⟩
  replace c5 := Bool.eq_false_iff.mpr c5
  subst c5
  have H1 : ((math_IsNaN.f a0).bind fun t236 => (math_frexp.j0 k a0 t236)) = some (r1, r2) := by rw [if_neg (show ¬ (false = true) by decide)] at H; exact H
  clear H
  have H := H1
  clear H1
  obtain ⟨t236, A6, H⟩ := sqO H
  try dsimp only at H
  have H' := Aside0.mk H
  clear H
  go_wp2_with (first | ((with_reducible refine gate_callee (f := 30) rfl ?_); refine goesL_ (some 11) rfl rfl Tryz.func30 (by kernel_rfl) rfl #[.float .f64 a0, .int .i64 0] rfl sqA ?_; (with_reducible refine (math_IsInf.calls a0 0 false _ A4.out).mono ?_); rintro e w' ⟨rfl, ⟨nd, rfl⟩⟩; refine ⟨_, rfl, ?_⟩) | (go_at_call 92; (with_reducible refine (math_IsNaN.calls a0 t236 _ A6.out).mono ?_); rintro e w' ⟨rfl, ⟨nd, rfl⟩⟩))
  go_meet
  case rel => exact ⟨_, (t236), sqE, H', ⟨by first | omega | exact Nat.le_refl _⟩, sqW⟩
 case rest =>
  clear HC3
  try clear c1
  try clear c2
  try clear c2b0
  try clear c2b1
  try clear c2b2
  try clear p2
  try clear c3
  try clear c5
  obtain ⟨kq, x9_2, rfl, HA, HJ2, ⟨mc2, rfl⟩⟩ := hcut
  cases kq with
  | zero => exact absurd HA.out (by simp [math_frexp.j0])
  | succ kj2 =>
   have H := HA.out
   clear HA
   simp only [math_frexp.j0] at H
   by_cases c7 : x9_2 = true
   ·subst c7
    have H1 : (some (a0, 0)) = some (r1, r2) := by rw [if_pos rfl] at H; exact H
    clear H
    have H := H1
    clear H1
    simp only [Option.some.injEq, Prod.mk.injEq] at H
    obtain ⟨rfl, rfl⟩ := H
    go_wp2
    go_ret2
    exact ⟨sqE, sqW⟩
   replace c7 := Bool.eq_false_iff.mpr c7
   subst c7
   have H1 : ((math_normalize.f a0).bind fun bt237 => (some (((Go.bits .or .u64 (Go.bits .andNot .u64 ((bt237.1 : Nat) : Int) 9218868437227405312) 4602678819172646912) : Int).toNat, wrap64 (bt237.2 + (wrap64 ((wrap64 ((wrap64 (Go.bits .and .u64 (((bt237.1 : Nat) : Int) / 4503599627370496) 2047)) - 1023)) + 1)))))) = some (r1, r2) := by rw [if_neg (show ¬ (false = true) by decide)] at H; exact H
   clear H
   have H := H1
   clear H1
   obtain ⟨⟨t237, t238⟩, A8, H⟩ := sqO H
   try dsimp only at H
   have hf9 := fun w_ : World => Rm.x_Float64bits t237 w_
   have hf10 := fun w_ : World => Rm.x_Float64frombits (Go.bits .or .u64 (Go.bits .andNot .u64 ((t237 : Nat) : Int) 9218868437227405312) 4602678819172646912) w_
   simp only [Option.some.injEq, Prod.mk.injEq] at H
   obtain ⟨rfl, rfl⟩ := H
   go_wp2_with (first | ((with_reducible refine gate_callee (f := 103) rfl ?_); refine goesL_ (some 19) rfl rfl Tryz.func103 (by kernel_rfl) rfl #[.float .f64 a0] rfl sqA ?_; (with_reducible refine (math_normalize.calls a0 t237 t238 _ A8.out).mono ?_); rintro e w' ⟨rfl, ⟨nd, rfl⟩⟩; refine ⟨_, rfl, ?_⟩))
   go_ret2
   exact ⟨sqE, sqW⟩
def math_Frexp.f (k : Nat) (a0 : Nat) : Option (Nat × Int) := (math_frexp.f k a0).bind fun bt239 => (some (bt239.1, bt239.2))
theorem math_Frexp.mono : ∀ a0 k, LeO (math_Frexp.f k a0) (math_Frexp.f (k + 1) a0) := by
 intro a0 k
 unfold math_Frexp.f
 repeat' first | (with_reducible first | apply math_frexp.mono | apply LeO.refl | apply LeO.none | refine LeO.ite ?_ ?_ | refine LeO.bind ?_ (fun _ => ?_)) | apply LeO.none | refine LeO.ite ?_ ?_ | refine LeO.bind ?_ (fun _ => ?_)
theorem math_Frexp.calls (k : Nat) (a0 : Nat) (r1 : Nat) (r2 : Int) (w : World) (h : math_Frexp.f k a0 = some (r1, r2)) :
  Calls Tryz.prog 110 #[.float .f64 a0] w fun e w' => e = .returned (.tuple #[.float .f64 r1, .int .i64 r2]) ∧ Drawn0 w w' := by
 have H : ((math_frexp.f k a0).bind fun bt239 => (some (bt239.1, bt239.2))) = some (r1, r2) := h
 clear h
 obtain ⟨⟨t239, t240⟩, A2, H⟩ := sqO H
 try dsimp only at H
 simp only [Option.some.injEq, Prod.mk.injEq] at H
 obtain ⟨rfl, rfl⟩ := H
 go_enter Tryz.func110, Tryz.ntmps110
 go_wp2_with (first | ((with_reducible refine gate_callee (f := 120) rfl ?_); refine goesL_ (some 9) rfl rfl Tryz.func120 (by kernel_rfl) rfl #[.float .f64 a0] rfl sqA ?_; (with_reducible refine (math_frexp.calls k a0 t239 t240 _ A2.out).mono ?_); rintro e w' ⟨rfl, ⟨nd, rfl⟩⟩; refine ⟨_, rfl, ?_⟩))
 go_ret2
 exact ⟨sqE, sqW⟩
end Go.Proofs.YtfmjdoofopamkaaGreatDoor.W
