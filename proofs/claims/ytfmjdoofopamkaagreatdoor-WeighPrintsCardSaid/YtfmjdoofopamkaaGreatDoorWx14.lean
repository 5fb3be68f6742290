import Derived.Test.YtfmjdoofopamkaaGreatDoorWx0
import Derived.Test.YtfmjdoofopamkaaGreatDoorWx8
namespace Go.Proofs.YtfmjdoofopamkaaGreatDoor.W
open Go.RowKit Go.Proofs.YtfmjdoofopamkaaGreatDoorW.PrintWords Go.Proofs.YtfmjdoofopamkaaGreatDoorW.PrintLast Go.Proofs.YtfmjdoofopamkaaGreatDoorW.PrintMore
set_option maxHeartbeats 8000000
set_option maxRecDepth 100000
attribute [local go_sem] max2_int min2_int max_two min_two max_three min_three max_four min_four
set_option linter.unusedVariables false
set_option linter.unusedSimpArgs false
def r2_Ten.l0 : Nat → Int → List Int → Int → Option (List Int)
 | 0, _, _, _ => none
 | k + 1, x0, x3, x4 => if x4 < x0 then ((r2_Times.f k x3 10 0).bind fun t414 => (r2_Ten.l0 k x0 t414 (wrap64 (x4 + 1)))) else (some x3)
def r2_Ten.f (k : Nat) (a0 : Int) : Option (List Int) := (r2_Of.f k 1).bind fun t411 => (r2_Ten.l0 k a0 t411 0)
theorem r2_Ten.mono_l : ∀ k, (∀ y0 y1 y2, LeO (r2_Ten.l0 k y0 y1 y2) (r2_Ten.l0 (k + 1) y0 y1 y2))
 | 0 => fun _ _ _ r h => by simp [r2_Ten.l0] at h
 | k + 1 => by
  have ih0 := r2_Ten.mono_l k
  intro y0 y1 y2
  unfold r2_Ten.l0
  repeat' first | (with_reducible first | apply ih0 | apply r2_Of.mono | apply r2_Times.mono | apply LeO.refl | apply LeO.none | refine LeO.ite ?_ ?_ | refine LeO.bind ?_ (fun _ => ?_)) | apply LeO.none | refine LeO.ite ?_ ?_ | refine LeO.bind ?_ (fun _ => ?_)
theorem r2_Ten.mono : ∀ a0 k, LeO (r2_Ten.f k a0) (r2_Ten.f (k + 1) a0) := by
 intro a0 k
 have ih0 := r2_Ten.mono_l k
 unfold r2_Ten.f
 repeat' first | (with_reducible first | apply ih0 | apply r2_Of.mono | apply r2_Times.mono | apply LeO.refl | apply LeO.none | refine LeO.ite ?_ ?_ | refine LeO.bind ?_ (fun _ => ?_)) | apply LeO.none | refine LeO.ite ?_ ?_ | refine LeO.bind ?_ (fun _ => ?_)
theorem r2_Ten.calls (k : Nat) (a0 : Int) (r : List Int) (w : World) (h : r2_Ten.f k a0 = some r) :
  Calls Tryz.prog 64 #[.int .i64 a0] w fun e w' => ∃ v0_ : Value, e = .returned (v0_) ∧ Kd.R (Kd.int .u32) 83 w' w.heap.size (fun _ => True) v0_ r ∧ Below w.heap.size w w' := by
 have HB := Sd.mk (Below.refl w.heap.size w)
 have H : ((r2_Of.f k 1).bind fun t411 => (r2_Ten.l0 k a0 t411 0)) = some r := h
 clear h
 obtain ⟨t411, A2, H⟩ := sqO H
 try dsimp only at H
 have H' := Sd.mk H
 clear H
 go_enter Tryz.func64, Tryz.ntmps64
 go_wp2_with (first | ((with_reducible refine gcl (f := 65) rfl ?_); refine gL (some 5) rfl rfl Tryz.func65 (by kernel_rfl) rfl #[.int .u64 1] rfl sqA ?_; (with_reducible refine (r2_Of.calls k 1 t411 _ A2.out).mono ?_); rintro e w3 ⟨v412, rfl, ho0, hb⟩; refine ⟨_, rfl, ?_⟩; have n0_ := Sd.mk (Kd.R_lower ho0 (bsz sqB)); have n1_ := Sd.mk (bst sqB hb); clear HB; have HO413 := n0_; have HB := n1_; clear n0_ n1_; (try clear hb); (try clear hb2); (try clear hk); (try clear hi); (try clear ho0)))
 try simp only [Act.put, List.setIfInBounds_toArray, List.set_cons_zero, List.set_cons_succ]
 go_loopg [3, 4] k (fun kq v3 v4 w' => ∃ (x3_1 : List Int) (x4_1 : Int), v4 = .int .i64 x4_1 ∧ Sd (r2_Ten.l0 kq a0 x3_1 x4_1 = some r) ∧ Sd (kq ≤ k) ∧ Sd (Kd.R (Kd.int .u32) 83 w' w.heap.size (fun _ => True) v3 x3_1) ∧ Sd (Below w.heap.size w w'))
 case atStart => exact ⟨(t411), (0), sqE, H', ⟨Nat.le_refl _⟩, ⟨sqR HO413.out⟩, ⟨sqB⟩⟩
 case round =>
  clear H'
  try clear p2
  obtain ⟨x3_1, x4_1, rfl, HA, HK1, HO_3, HB⟩ := hrel
  cases gk with
  | zero => exact absurd HA.out (by simp [r2_Ten.l0])
  | succ k1 =>
   have H := HA.out
   clear HA
   simp only [r2_Ten.l0] at H
   by_cases c4 : x4_1 < a0
   case neg =>
    rw [if_neg c4] at H
    have c4b0 := decide_eq_false c4
    clear c4
    obtain rfl := Option.some.inj H
    go_wp2
    go_ret
    exact ⟨_, sqE', sqR HO_3.out, sqB⟩
   rw [if_pos c4] at H
   have c4b0 := decide_eq_true c4
   clear c4
   obtain ⟨t414, A5, H⟩ := sqO H
   try dsimp only at H
   have H' := Sd.mk H
   clear H
   obtain ⟨Ao6, co6, eo6⟩ := Kd.R_slice HO_3.out
   subst eo6
   go_wp2_with (first | ((with_reducible refine gcl (f := 61) rfl ?_); refine gL (some 12) rfl rfl Tryz.func61 (by kernel_rfl) rfl #[.slice Ao6 x3_1.length co6, .int .u32 10, .int .u32 0] rfl sqA ?_; (with_reducible refine (r2_Times.calls k1 _ _ x3_1 10 0 t414 _ ?side1 ?side2 A5.out).mono ?_); (case side1 => repeat (first | exact (Kd.R_reads' HO_3.out).2.2 | (with_reducible refine Kd.C_alloc ?_ _) | (with_reducible refine Kd.C_drewN ?_ _) | (with_reducible refine Kd.C_drew ?_))); (case side2 => exact (Kd.R_reads' HO_3.out).2.1); rintro e w7 ⟨v415, rfl, ho0, hb⟩; refine ⟨_, rfl, ?_⟩; have n0_ := Sd.mk (Kd.R_elder' (sqR HO_3.out) (Kd.R_base ho0) hb); have n1_ := Sd.mk (Kd.R_lower (Kd.R_new' ho0 (Kd.R_lt (sqR HO_3.out))) (bsz sqB)); have n2_ := Sd.mk (bst sqB hb); clear HO_3; clear HB; have HO_3 := n0_; have HO416 := n1_; have HB := n2_; clear n0_ n1_ n2_; (try clear hb); (try clear hb2); (try clear hk); (try clear hi); (try clear ho0)))
   go_roundg k1
   case measure => have := HK1.out; omega
   case rel => exact ⟨(t414), (wrap64 (x4_1 + 1)), sqE, H', ⟨by have := HK1.out; omega⟩, ⟨by (with_reducible repeat (first | apply Kd.R_alloc | apply Kd.R_drewN | apply Kd.R_drew)); exact Kd.R_mono HO416.out (fun _ hk => trivial)⟩, ⟨sqB⟩⟩
end Go.Proofs.YtfmjdoofopamkaaGreatDoor.W
