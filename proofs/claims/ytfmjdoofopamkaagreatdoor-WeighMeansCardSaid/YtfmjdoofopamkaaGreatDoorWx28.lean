-- written by wip/pp.py of this session (the kit's print with patches); checked by Lean alone
import Derived.Test.YtfmjdoofopamkaaGreatDoorWx0
import Derived.Test.YtfmjdoofopamkaaGreatDoorWx25
import Derived.Test.YtfmjdoofopamkaaGreatDoorWx26
import Derived.Test.YtfmjdoofopamkaaGreatDoorWx27
namespace Go.Proofs.YtfmjdoofopamkaaGreatDoor.W
open Go.RowKit Go.Proofs.YtfmjdoofopamkaaGreatDoorW.PrintWords Go.Proofs.YtfmjdoofopamkaaGreatDoorW.PrintLast Go.Proofs.YtfmjdoofopamkaaGreatDoorW.PrintMore
attribute [local go_sem] max2_int min2_int max_two min_two max_three min_three max_four min_four   -- for this text's walks alone
set_option linter.unusedVariables false
set_option linter.unusedSimpArgs false

/-! ### endonymref2_Mean: function 23 -/
def endonymref2_Mean.j0 : Nat → List Int → Bool → Option (Int × Bool)
 | 0, _, _ => none
 | k + 1, x0, x16 => if x16 = true then (some (0, false)) else ((endonymref2_Total.f k x0).bind fun bt743 => ((endonymref2_rounded.f k bt743.1 bt743.2 (x0.length : Int)).bind fun t747 => (some (t747, true))))
def endonymref2_Mean.f (k : Nat) (l0 : List Int) : Option (Int × Bool) := (endonymref2_odd.f k l0).bind fun bt741 => (if bt741.2 = true then (endonymref2_Mean.j0 k l0 true) else (endonymref2_Mean.j0 k l0 ((l0.length : Int) == 0)))
theorem endonymref2_Mean.mono_l : ∀ k, (∀ y0 y1, LeO (endonymref2_Mean.j0 k y0 y1) (endonymref2_Mean.j0 (k + 1) y0 y1))
 | 0 => fun _ _ r h => by simp [endonymref2_Mean.j0] at h
 | k + 1 => by
  have ih0 := endonymref2_Mean.mono_l k
  intro y0 y1
  unfold endonymref2_Mean.j0
  repeat' first | (with_reducible first | apply ih0 | apply endonymref2_Total.mono | apply endonymref2_odd.mono | apply endonymref2_rounded.mono | apply LeO.refl | apply LeO.none | refine LeO.ite ?_ ?_ | refine LeO.bind ?_ (fun _ => ?_)) | apply ih0 | apply endonymref2_Total.mono | apply endonymref2_odd.mono | apply endonymref2_rounded.mono | apply LeO.none | refine LeO.ite ?_ ?_ | refine LeO.bind ?_ (fun _ => ?_)
theorem endonymref2_Mean.mono : ∀ a0 k, LeO (endonymref2_Mean.f k a0) (endonymref2_Mean.f (k + 1) a0) := by
 intro a0 k
 have ih0 := endonymref2_Mean.mono_l k
 unfold endonymref2_Mean.f
 repeat' first | (with_reducible first | apply ih0 | apply endonymref2_Total.mono | apply endonymref2_odd.mono | apply endonymref2_rounded.mono | apply LeO.refl | apply LeO.none | refine LeO.ite ?_ ?_ | refine LeO.bind ?_ (fun _ => ?_)) | apply ih0 | apply endonymref2_Total.mono | apply endonymref2_odd.mono | apply endonymref2_rounded.mono | apply LeO.none | refine LeO.ite ?_ ?_ | refine LeO.bind ?_ (fun _ => ?_)
set_option maxHeartbeats 8000000 in
set_option maxRecDepth 100000 in
theorem endonymref2_Mean.calls (k : Nat) (A0 : Option Addr) (c0 : Nat) (l0 : List Int) (r1 : Int) (r2 : Bool) (w : World) (hr0 : Kd.C (Kd.int .u64) w A0 l0.length l0) (hc0 : l0.length ≤ c0) (h : endonymref2_Mean.f k l0 = some (r1, r2)) :
  Calls Tryz.prog 23 #[.slice A0 l0.length c0] w fun e w' => e = .returned (.tuple #[.int .u64 r1, .bool r2]) ∧ Below w.heap.size w w' := by
 have HR0 := Aside0.mk hr0
 have HC0 := Aside0.mk hc0
 clear hr0 hc0
 have HB := Aside0.mk (Below.refl w.heap.size w)
 have H : ((endonymref2_odd.f k l0).bind fun bt741 => (if bt741.2 = true then (endonymref2_Mean.j0 k l0 true) else (endonymref2_Mean.j0 k l0 ((l0.length : Int) == 0)))) = some (r1, r2) := h
 clear h
 replace H := Option.bind_eq_some_iff.mp H
 obtain ⟨⟨t741, t742⟩, A20, H⟩ := H
 try dsimp only at H
 have A2 := Aside0.mk A20
 clear A20
 have HC3 := Aside0.mk H
 clear H
 go_enter Tryz.func23, Tryz.ntmps23
 go_upto_region 2 with (first | ((with_reducible refine gate_callee (f := 47) rfl ?_); refine goesL_ (some 8) rfl rfl Tryz.func47 (by kernel_rfl) rfl #[.slice A0 l0.length c0] rfl sqA ?_; (with_reducible refine (endonymref2_odd.calls k _ _ l0 t741 t742 _ ?side1 ?side2 A2.out).mono ?_); (case side1 => repeat (first | exact HR0.out | (with_reducible refine Kd.C_alloc ?_ _) | (with_reducible refine Kd.C_drewN ?_ _) | (with_reducible refine Kd.C_drew ?_))); (case side2 => exact HC0.out); rintro e w' ⟨rfl, ⟨nd, rfl⟩⟩; refine ⟨_, rfl, ?_⟩))
 (try simp only [Act.put, List.setIfInBounds_toArray, List.set_cons_zero, List.set_cons_succ])
 go_cut [16] (fun v16 wc => ∃ (kq : Nat) (x16_2 : Bool), v16 = .bool x16_2 ∧ Aside0 (endonymref2_Mean.j0 kq l0 x16_2 = some (r1, r2)) ∧ Aside0 (kq ≤ k) ∧ Aside0 (Below w.heap.size w wc))
 case first =>
  have H := HC3.out
  clear HC3
  by_cases c4 : t742 = true
  ·subst c4
   have H1 : (endonymref2_Mean.j0 k l0 true) = some (r1, r2) := by rw [if_pos rfl] at H; exact H
   clear H
   have H := H1
   clear H1
   have H' := Aside0.mk H
   clear H
   go_wp2
   go_meet
   case rel => exact ⟨_, (true), sqE, H', ⟨by first | omega | exact Nat.le_refl _⟩, ⟨sqB⟩⟩
  replace c4 := Bool.eq_false_iff.mpr c4
  subst c4
  have H1 : (endonymref2_Mean.j0 k l0 ((l0.length : Int) == 0)) = some (r1, r2) := by rw [if_neg (show ¬ (false = true) by decide)] at H; exact H
  clear H
  have H := H1
  clear H1
  have H' := Aside0.mk H
  clear H
  go_wp2
  go_meet
  case rel => exact ⟨_, (((l0.length : Int) == 0)), sqE, H', ⟨by first | omega | exact Nat.le_refl _⟩, ⟨sqB⟩⟩
 case rest =>
  clear HC3
  try clear c2
  try clear p2
  try clear c4
  obtain ⟨kq, x16_2, rfl, HA, HJ2, HB⟩ := hcut
  cases kq with
  | zero => exact absurd HA.out (by simp [endonymref2_Mean.j0])
  | succ kj2 =>
   have H := HA.out
   clear HA
   simp only [endonymref2_Mean.j0] at H
   by_cases c5 : x16_2 = true
   ·subst c5
    have H1 : (some (0, false)) = some (r1, r2) := by rw [if_pos rfl] at H; exact H
    clear H
    have H := H1
    clear H1
    simp only [Option.some.injEq, Prod.mk.injEq] at H
    obtain ⟨rfl, rfl⟩ := H
    go_wp2
    go_ret2
    exact ⟨sqE', sqB⟩
   replace c5 := Bool.eq_false_iff.mpr c5
   subst c5
   have H1 : ((endonymref2_Total.f kj2 l0).bind fun bt743 => ((endonymref2_rounded.f kj2 bt743.1 bt743.2 (l0.length : Int)).bind fun t747 => (some (t747, true)))) = some (r1, r2) := by rw [if_neg (show ¬ (false = true) by decide)] at H; exact H
   clear H
   have H := H1
   clear H1
   replace H := Option.bind_eq_some_iff.mp H
   obtain ⟨⟨t743, t744⟩, A60, H⟩ := H
   try dsimp only at H
   have A6 := Aside0.mk A60
   clear A60
   replace H := Option.bind_eq_some_iff.mp H
   obtain ⟨t747, A70, H⟩ := H
   try dsimp only at H
   have A7 := Aside0.mk A70
   clear A70
   simp only [Option.some.injEq, Prod.mk.injEq] at H
   obtain ⟨rfl, rfl⟩ := H
   go_wp2_with (first | ((with_reducible refine gate_callee (f := 49) rfl ?_); refine goesL_ (some 18) rfl rfl Tryz.func49 (by kernel_rfl) rfl #[.slice A0 l0.length c0] rfl sqA ?_; (with_reducible refine (endonymref2_Total.calls kj2 _ _ l0 t743 t744 _ ?side1 ?side2 A6.out).mono ?_); (case side1 => repeat (first | exact (Kd.C_below HR0.out HB.out) | (with_reducible refine Kd.C_alloc ?_ _) | (with_reducible refine Kd.C_drewN ?_ _) | (with_reducible refine Kd.C_drew ?_))); (case side2 => exact HC0.out); rintro e w8 ⟨v745, rfl, ho0, hb⟩; refine ⟨_, rfl, ?_⟩; have n0_ := Aside0.mk (Kd.R_lower ho0 (below_size sqB)); have n1_ := Aside0.mk (below_step sqB hb); clear HB; have HO746 := n0_; have HB := n1_; clear n0_ n1_; (try clear hb); (try clear hb2); (try clear hk); (try clear hi); (try clear ho0); obtain ⟨Ao9, co9, eo9⟩ := Kd.R_slice HO746.out; subst eo9) | ((with_reducible refine gate_callee (f := 48) rfl ?_); refine goesL_ (some 21) rfl rfl Tryz.func48 (by kernel_rfl) rfl #[.agg #[.bool t743, .slice Ao9 t744.length co9], .int .i64 (l0.length : Int)] rfl sqA ?_; (with_reducible refine (endonymref2_rounded.calls kj2 t743 _ _ t744 (l0.length : Int) t747 _ ?side1 ?side2 A7.out).mono ?_); (case side1 => repeat (first | exact (Kd.R_reads' HO746.out).2.2 | (with_reducible refine Kd.C_alloc ?_ _) | (with_reducible refine Kd.C_drewN ?_ _) | (with_reducible refine Kd.C_drew ?_))); (case side2 => exact (Kd.R_reads' HO746.out).2.1); rintro e w10 ⟨rfl, hb⟩; refine ⟨_, rfl, ?_⟩; have n0_ := Aside0.mk (Kd.R_below (sqR HO746.out) hb); have n1_ := Aside0.mk (below_step sqB hb); clear HO746; clear HB; have HO746 := n0_; have HB := n1_; clear n0_ n1_; (try clear hb); (try clear hb2); (try clear hk); (try clear hi)))
   go_ret2
   exact ⟨sqE', sqB⟩

end Go.Proofs.YtfmjdoofopamkaaGreatDoor.W
