import Derived.Test.YtfmjdoofopamkaaGreatDoorWx0
import Derived.Test.YtfmjdoofopamkaaGreatDoorWx4
import Derived.Test.YtfmjdoofopamkaaGreatDoorWx6
import Derived.Test.YtfmjdoofopamkaaGreatDoorWx7
namespace Go.Proofs.YtfmjdoofopamkaaGreatDoor.W
open Go.RowKit Go.Proofs.YtfmjdoofopamkaaGreatDoorW.PrintWords Go.Proofs.YtfmjdoofopamkaaGreatDoorW.PrintLast Go.Proofs.YtfmjdoofopamkaaGreatDoorW.PrintMore
set_option maxHeartbeats 8000000
set_option maxRecDepth 100000
attribute [local go_sem] max2_int min2_int max_two min_two max_three min_three max_four min_four
set_option linter.unusedVariables false
set_option linter.unusedSimpArgs false
mutual
def weigh_nearest.j0 : Nat → Nat → Int → Int → List Int → Bool → Option (ByteArray × Bool)
 | 0, _, _, _, _, _ => none
 | k + 1, x0, x1, x6, x8, x34 => if x34 = true then (weigh_nearest.j1 k x0 x1 (([IntKind.u64.wrap (x6 + 1), x6] : List Int))) else (weigh_nearest.j1 k x0 x1 x8)
def weigh_nearest.j1 : Nat → Nat → Int → List Int → Option (ByteArray × Bool)
 | 0, _, _, _ => none
 | k + 1, x0, x1, x8 => weigh_nearest.l0 k x0 x1 x8 (x8.length : Int) 0
def weigh_nearest.l0 : Nat → Nat → Int → List Int → Int → Int → Option (ByteArray × Bool)
 | 0, _, _, _, _, _ => none
 | k + 1, x0, x1, x39, x40, x41 => if x41 < x40 then (if 0 ≤ x41 then (if x41 < (x39.length : Int) then (if (rd x39 x41) = 0 then (weigh_nearest.l0 k x0 x1 x39 x40 (wrap64 (x41 + 1))) else ((weigh_written.f k (rd x39 x41) x1).bind fun t363 => ((weigh_Parse.f k t363).bind fun bt364 => (if bt364.2 = 0 then (if (FloatKind.f64.format.order bt364.1 x0 == some .eq) = true then (some (t363, true)) else (weigh_nearest.l0 k x0 x1 x39 x40 (wrap64 (x41 + 1)))) else (weigh_nearest.l0 k x0 x1 x39 x40 (wrap64 (x41 + 1))))))) else (none)) else (none)) else (some ((⟨#[]⟩ : ByteArray), false))
end
def weigh_nearest.f (k : Nat) (a0 : Nat) (a1 : Int) : Option (ByteArray × Bool) := (weigh_quotient.f k a0 a1).bind fun bt354 => ((some (([bt354.1, IntKind.u64.wrap (bt354.1 + 1)] : List Int) : List Int)).bind fun y356 => (if bt354.2 > 0 then (weigh_nearest.j0 k a0 a1 bt354.1 y356 true) else (if bt354.2 = 0 then (weigh_nearest.j0 k a0 a1 bt354.1 y356 ((Int.tmod bt354.1 2) == 1)) else (weigh_nearest.j0 k a0 a1 bt354.1 y356 false))))
theorem weigh_nearest.mono_l : ∀ k, (∀ y0 y1 y2 y3 y4, LeO (weigh_nearest.j0 k y0 y1 y2 y3 y4) (weigh_nearest.j0 (k + 1) y0 y1 y2 y3 y4)) ∧ (∀ y0 y1 y2, LeO (weigh_nearest.j1 k y0 y1 y2) (weigh_nearest.j1 (k + 1) y0 y1 y2)) ∧ (∀ y0 y1 y2 y3 y4, LeO (weigh_nearest.l0 k y0 y1 y2 y3 y4) (weigh_nearest.l0 (k + 1) y0 y1 y2 y3 y4))
 | 0 => ⟨fun _ _ _ _ _ r h => by simp [weigh_nearest.j0] at h, fun _ _ _ r h => by simp [weigh_nearest.j1] at h, fun _ _ _ _ _ r h => by simp [weigh_nearest.l0] at h⟩
 | k + 1 => by
  obtain ⟨ih0, ih1, ih2⟩ := weigh_nearest.mono_l k
  refine ⟨?_, ?_, ?_⟩
  ·intro y0 y1 y2 y3 y4
   unfold weigh_nearest.j0
   repeat' first | (with_reducible first | apply ih0 | apply ih1 | apply ih2 | apply weigh_Parse.mono | apply weigh_quotient.mono | apply weigh_written.mono | apply LeO.refl | apply LeO.none | refine LeO.ite ?_ ?_ | refine LeO.bind ?_ (fun _ => ?_)) | apply LeO.none | refine LeO.ite ?_ ?_ | refine LeO.bind ?_ (fun _ => ?_)
  ·intro y0 y1 y2
   unfold weigh_nearest.j1
   repeat' first | (with_reducible first | apply ih0 | apply ih1 | apply ih2 | apply weigh_Parse.mono | apply weigh_quotient.mono | apply weigh_written.mono | apply LeO.refl | apply LeO.none | refine LeO.ite ?_ ?_ | refine LeO.bind ?_ (fun _ => ?_)) | apply LeO.none | refine LeO.ite ?_ ?_ | refine LeO.bind ?_ (fun _ => ?_)
  intro y0 y1 y2 y3 y4
  unfold weigh_nearest.l0
  repeat' first | (with_reducible first | apply ih0 | apply ih1 | apply ih2 | apply weigh_Parse.mono | apply weigh_quotient.mono | apply weigh_written.mono | apply LeO.refl | apply LeO.none | refine LeO.ite ?_ ?_ | refine LeO.bind ?_ (fun _ => ?_)) | apply LeO.none | refine LeO.ite ?_ ?_ | refine LeO.bind ?_ (fun _ => ?_)
theorem weigh_nearest.mono : ∀ a0 a1 k, LeO (weigh_nearest.f k a0 a1) (weigh_nearest.f (k + 1) a0 a1) := by
 intro a0 a1 k
 obtain ⟨ih0, ih1, ih2⟩ := weigh_nearest.mono_l k
 unfold weigh_nearest.f
 repeat' first | (with_reducible first | apply ih0 | apply ih1 | apply ih2 | apply weigh_Parse.mono | apply weigh_quotient.mono | apply weigh_written.mono | apply LeO.refl | apply LeO.none | refine LeO.ite ?_ ?_ | refine LeO.bind ?_ (fun _ => ?_)) | apply LeO.none | refine LeO.ite ?_ ?_ | refine LeO.bind ?_ (fun _ => ?_)
theorem weigh_nearest.calls (k : Nat) (a0 : Nat) (a1 : Int) (r1 : ByteArray) (r2 : Bool) (w : World) (htab : Aside0 (Rm.Tab w)) (h : weigh_nearest.f k a0 a1 = some (r1, r2)) :
  Calls Tryz.prog 41 #[.float .f64 a0, .int .i64 a1] w fun e w' => e = .returned (.tuple #[.string r1, .bool r2]) ∧ Below w.heap.size w w' := by
 have HB := Aside0.mk (Below.refl w.heap.size w)
 have H : ((weigh_quotient.f k a0 a1).bind fun bt354 => ((some (([bt354.1, IntKind.u64.wrap (bt354.1 + 1)] : List Int) : List Int)).bind fun y356 => (if bt354.2 > 0 then (weigh_nearest.j0 k a0 a1 bt354.1 y356 true) else (if bt354.2 = 0 then (weigh_nearest.j0 k a0 a1 bt354.1 y356 ((Int.tmod bt354.1 2) == 1)) else (weigh_nearest.j0 k a0 a1 bt354.1 y356 false))))) = some (r1, r2) := h
 clear h
 obtain ⟨⟨t354, t355⟩, A3, H⟩ := sqO H
 try dsimp only at H
 obtain ⟨y356, hy356⟩ : ∃ y_ : List Int, y_ = (([t354, IntKind.u64.wrap (t354 + 1)] : List Int)) := ⟨_, rfl⟩
 replace H : (if t355 > 0 then (weigh_nearest.j0 k a0 a1 t354 y356 true) else (if t355 = 0 then (weigh_nearest.j0 k a0 a1 t354 y356 ((Int.tmod t354 2) == 1)) else (weigh_nearest.j0 k a0 a1 t354 y356 false))) = some (r1, r2) := by first | (rw [hy356]; with_reducible exact H) | (have H2_ := (Option.bind_some _ _).symm.trans H; rw [hy356]; with_reducible exact H2_) | (have H2_ := (Option.bind_some _ _).symm.trans H; with_reducible exact H2_) | with_reducible exact H | (rw [hy356]; exact H) | exact H
 have Ny356 := Aside0.mk hy356
 clear hy356
 have HC4 := Aside0.mk H
 clear H
 go_enter Tryz.func41, Tryz.ntmps41
 go_upto_region 3 with (first | ((with_reducible refine gate_callee (f := 71) rfl ?_); refine goesL_ (some 17) rfl rfl Tryz.func71 (by kernel_rfl) rfl #[.float .f64 a0, .int .i64 a1] rfl sqA ?_; (with_reducible refine (weigh_quotient.calls k a0 a1 t354 t355 _ A3.out).mono ?_); rintro e w5 ⟨rfl, hb⟩; refine ⟨_, rfl, ?_⟩; have n0_ := Aside0.mk (below_step sqB hb); clear HB; have HB := n0_; clear n0_; (try clear hb); (try clear hb2); (try clear hk); (try clear hi)) | ((with_reducible refine gate_dst (N := 23) rfl ?_); refine Kd.R_lit (Kd.int .u64) _ 26 ?hg (N := 23) ?hd (xs := ([t354, IntKind.u64.wrap (t354 + 1)] : List Int)) (inner := [.int .u64 t354, .int .u64 (IntKind.u64.wrap (t354 + 1))]) (ok := fun _ => True) (okp := fun _ => True) ?hr ?hp (fun _ hk => hk) trivial (Below.refl _ _) (Nat.le_refl _) (by simp) ?_; (case hd => rfl); (case hg => rfl); (case hr => first | (go_simp; done) | (go_simp; rfl)); (case hp => exact (Reps.one (show Kd.M (Kd.int .u64) _ _ _ t354 [.int .u64 t354] from rfl) (Reps.one (show Kd.M (Kd.int .u64) _ _ _ (IntKind.u64.wrap (t354 + 1)) [.int .u64 (IntKind.u64.wrap (t354 + 1))] from rfl) (Reps.none _ _)))); intro v357 w6 ho7 hb hg_ hnew_; clear hg_ hnew_; (first | rw [← Ny356.out] at ho7 | (simp only [Int.reduceToNat] at ho7; rw [← Ny356.out] at ho7)); have n0_ := Aside0.mk (Kd.R_lower ho7 (below_size sqB)); have n1_ := Aside0.mk (below_step sqB hb); clear HB; have HO358 := n0_; have HB := n1_; clear n0_ n1_; clear hb ho7))
 (try simp only [Act.put, List.setIfInBounds_toArray, List.set_cons_zero, List.set_cons_succ])
 go_cut [34] (fun v34 wc => ∃ (kq : Nat) (x34_3 : Bool), v34 = .bool x34_3 ∧ Aside0 (weigh_nearest.j0 kq a0 a1 t354 y356 x34_3 = some (r1, r2)) ∧ Aside0 (kq ≤ k) ∧ Aside0 (Kd.R (Kd.int .u64) 26 wc w.heap.size (fun _ => True) v357 y356) ∧ Aside0 (Below w.heap.size w wc))
 case first =>
  have H := HC4.out
  clear HC4
  by_cases c8 : t355 > 0
  ·rw [if_pos c8] at H
   have c8b0 := decide_eq_true c8
   clear c8
   (first | rw [c8b0] | (simp only [i64_w, i32_w]; rw [c8b0]) | skip)
   have H' := Aside0.mk H
   clear H
   go_wp2
   go_meet
   case rel => exact ⟨_, (true), sqE, H', ⟨by first | omega | exact Nat.le_refl _⟩, ⟨sqR HO358.out⟩, ⟨sqB⟩⟩
  rw [if_neg c8] at H
  have c8b0 := decide_eq_false c8
  clear c8
  (first | rw [c8b0] | (simp only [i64_w, i32_w]; rw [c8b0]) | skip)
  by_cases c9 : t355 = 0
  ·rw [if_pos c9] at H
   have c9b0 := beq_iff_eq.mpr c9
   have c9b1 := bne_eq_false_iff_eq.mpr c9
   clear c9
   have H' := Aside0.mk H
   clear H
   go_wp2
   go_meet
   case rel => exact ⟨_, (((Int.tmod t354 2) == 1)), sqE, H', ⟨by first | omega | exact Nat.le_refl _⟩, ⟨sqR HO358.out⟩, ⟨sqB⟩⟩
  rw [if_neg c9] at H
  have c9b0 := beq_eq_false_iff_ne.mpr c9
  have c9b1 := bne_iff_ne.mpr c9
  have H' := Aside0.mk H
  clear H
  go_wp2
  go_meet
  case rel => exact ⟨_, (false), sqE, H', ⟨by first | omega | exact Nat.le_refl _⟩, ⟨sqR HO358.out⟩, ⟨sqB⟩⟩
 case rest =>
  clear HC4
  try clear p2
  try clear c4
  try clear c7
  try clear c8
  try clear c8b0
  try clear c9
  try clear c9b0
  try clear c9b1
  obtain ⟨kq, x34_3, rfl, HA, HJ3, HO_8, HB⟩ := hcut
  cases kq with
  | zero => exact absurd HA.out (by simp [weigh_nearest.j0])
  | succ kj3 =>
   have H := HA.out
   clear HA
   simp only [weigh_nearest.j0] at H
   have HC10 := Aside0.mk H
   clear H
   go_upto_if 34 with (fail)
   go_cut [8] (fun v8 wc => ∃ (kq : Nat) (x8_9 : List Int), Aside0 (weigh_nearest.j1 kq a0 a1 x8_9 = some (r1, r2)) ∧ Aside0 (kq ≤ kj3) ∧ Aside0 (Kd.R (Kd.int .u64) 26 wc w.heap.size (fun _ => True) v8 x8_9) ∧ Aside0 (Below w.heap.size w wc))
   case first =>
    have H := HC10.out
    clear HC10
    by_cases c11 : x34_3 = true
    case neg =>
     replace c11 := Bool.eq_false_iff.mpr c11
     subst c11
     have H1 : (weigh_nearest.j1 kj3 a0 a1 y356) = some (r1, r2) := by rw [if_neg (show ¬ (false = true) by decide)] at H; exact H
     clear H
     have H := H1
     clear H1
     have H' := Aside0.mk H
     clear H
     go_wp2
     go_meet
     case rel => exact ⟨_, (y356), H', ⟨by have := HJ3.out; first | omega | exact Nat.le_refl _⟩, ⟨sqR HO_8.out⟩, ⟨sqB⟩⟩
    subst c11
    have H1 : (weigh_nearest.j1 kj3 a0 a1 (([IntKind.u64.wrap (t354 + 1), t354] : List Int))) = some (r1, r2) := by rw [if_pos rfl] at H; exact H
    clear H
    have H := H1
    clear H1
    obtain ⟨y359, hy359⟩ : ∃ y_ : List Int, y_ = (([IntKind.u64.wrap (t354 + 1), t354] : List Int)) := ⟨_, rfl⟩
    replace H : (weigh_nearest.j1 kj3 a0 a1 y359) = some (r1, r2) := by first | (rw [hy359]; with_reducible exact H) | (have H2_ := (Option.bind_some _ _).symm.trans H; rw [hy359]; with_reducible exact H2_) | (have H2_ := (Option.bind_some _ _).symm.trans H; with_reducible exact H2_) | with_reducible exact H | (rw [hy359]; exact H) | exact H
    have Ny359 := Aside0.mk hy359
    clear hy359
    have H' := Aside0.mk H
    clear H
    go_wp2_with (first | ((with_reducible refine gate_dst (N := 38) rfl ?_); refine Kd.R_lit (Kd.int .u64) _ 26 ?hg (N := 38) ?hd (xs := ([IntKind.u64.wrap (t354 + 1), t354] : List Int)) (inner := [.int .u64 (IntKind.u64.wrap (t354 + 1)), .int .u64 t354]) (ok := fun _ => True) (okp := fun _ => True) ?hr ?hp (fun _ hk => hk) trivial (Below.refl _ _) (Nat.le_refl _) (by simp) ?_; (case hd => rfl); (case hg => rfl); (case hr => first | (go_simp; done) | (go_simp; rfl)); (case hp => exact (Reps.one (show Kd.M (Kd.int .u64) _ _ _ (IntKind.u64.wrap (t354 + 1)) [.int .u64 (IntKind.u64.wrap (t354 + 1))] from rfl) (Reps.one (show Kd.M (Kd.int .u64) _ _ _ t354 [.int .u64 t354] from rfl) (Reps.none _ _)))); intro v360 w12 ho13 hb hg_ hnew_; clear hg_ hnew_; (first | rw [← Ny359.out] at ho13 | (simp only [Int.reduceToNat] at ho13; rw [← Ny359.out] at ho13)); have n0_ := Aside0.mk (Kd.R_elder' (sqR HO_8.out) (Kd.R_base ho13) hb); have n1_ := Aside0.mk (Kd.R_lower (Kd.R_new' ho13 (Kd.R_lt (sqR HO_8.out))) (below_size sqB)); have n2_ := Aside0.mk (below_step sqB hb); clear HO_8; clear HB; have HO_8 := n0_; have HO361 := n1_; have HB := n2_; clear n0_ n1_ n2_; clear hb ho13))
    go_meet
    case rel => exact ⟨_, (y359), H', ⟨by have := HJ3.out; first | omega | exact Nat.le_refl _⟩, ⟨by (with_reducible repeat (first | apply Kd.R_alloc | apply Kd.R_drewN | apply Kd.R_drew)); exact Kd.R_mono HO361.out (fun _ hk => trivial)⟩, ⟨sqB⟩⟩
   case rest =>
    clear HC10
    try clear c1
    try clear p2
    try clear c4
    try clear c7
    try clear c8
    try clear c8b0
    try clear c9
    try clear c9b0
    try clear c9b1
    try clear c11
    try clear p2
    obtain ⟨kq, x8_9, HA, HJ9, HO_8, HB⟩ := hcut
    cases kq with
    | zero => exact absurd HA.out (by simp [weigh_nearest.j1])
    | succ kj9 =>
     have H := HA.out
     clear HA
     simp only [weigh_nearest.j1] at H
     have H' := Aside0.mk H
     clear H
     obtain ⟨Ao14, co14, eo14⟩ := Kd.R_slice HO_8.out
     subst eo14
     go_wp2
     go_loopg [41] kj9 (fun kq v41 w' => ∃ (x41_3 : Int), v41 = .int .i64 x41_3 ∧ Aside0 (weigh_nearest.l0 kq a0 a1 x8_9 (x8_9.length : Int) x41_3 = some (r1, r2)) ∧ Aside0 (kq ≤ kj9) ∧ Aside0 (Kd.R (Kd.int .u64) 26 w' w.heap.size (fun _ => True) (.slice Ao14 x8_9.length co14) x8_9) ∧ Aside0 (Below w.heap.size w w'))
     case atStart => exact ⟨(0), sqE, H', ⟨Nat.le_refl _⟩, ⟨sqR HO_8.out⟩, ⟨sqB⟩⟩
     case round =>
      clear H'
      try clear c1
      try clear p2
      try clear c4
      try clear c7
      try clear c8
      try clear c8b0
      try clear c9
      try clear c9b0
      try clear c9b1
      try clear c11
      try clear p2
      obtain ⟨x41_3, rfl, HA, HK3, HO_39, HB⟩ := hrel
      cases gk with
      | zero => exact absurd HA.out (by simp [weigh_nearest.l0])
      | succ k3 =>
       have H := HA.out
       clear HA
       simp only [weigh_nearest.l0] at H
       by_cases c15 : x41_3 < (x8_9.length : Int)
       case neg =>
        rw [if_neg c15] at H
        have c15b0 := decide_eq_false c15
        clear c15
        simp only [Option.some.injEq, Prod.mk.injEq] at H
        obtain ⟨rfl, rfl⟩ := H
        go_wp2
        go_ret2
        exact ⟨sqE', sqB⟩
       rw [if_pos c15] at H
       have c15b0 := decide_eq_true c15
       clear c15
       by_cases c16 : 0 ≤ x41_3
       case neg => rw [if_neg c16] at H; exact absurd H (by simp)
       rw [if_pos c16] at H
       have c16b0 := decide_eq_true c16
       clear c16
       by_cases c17 : x41_3 < (x8_9.length : Int)
       case neg => rw [if_neg c17] at H; exact absurd H (by simp)
       rw [if_pos c17] at H
       have c17b0 := decide_eq_true c17
       clear c17
       by_cases c18 : (rd x8_9 x41_3) = 0
       ·rw [if_pos c18] at H
        have c18b0 := beq_iff_eq.mpr c18
        have c18b1 := bne_eq_false_iff_eq.mpr c18
        clear c18
        have H' := Aside0.mk H
        clear H
        have p362 : 0 ≤ (x41_3 : Int) := sqD
        have q362 : x41_3 < (x8_9.length : Int) := sqD
        obtain ⟨ad362, e362, hx362_0⟩ := Kd.at_int (Kd.R_reads' HO_39.out).2.2 x41_3 p362 q362
        cases e362
        replace p362 := eq_true p362
        replace q362 := eq_true q362
        go_wp2
        go_roundg k3
        case measure => have := HJ3.out; have := HJ9.out; have := HK3.out; omega
        case rel => exact ⟨(wrap64 (x41_3 + 1)), sqE, H', ⟨by have := HJ3.out; have := HJ9.out; have := HK3.out; omega⟩, ⟨sqR HO_39.out⟩, ⟨sqB⟩⟩
       rw [if_neg c18] at H
       have c18b0 := beq_eq_false_iff_ne.mpr c18
       have c18b1 := bne_iff_ne.mpr c18
       obtain ⟨t363, A19, H⟩ := sqO H
       try dsimp only at H
       obtain ⟨⟨t364, t365⟩, A20, H⟩ := sqO H
       try dsimp only at H
       by_cases c21 : t365 = 0
       case neg =>
        rw [if_neg c21] at H
        have c21b0 := beq_eq_false_iff_ne.mpr c21
        have c21b1 := bne_iff_ne.mpr c21
        have H' := Aside0.mk H
        clear H
        have p362 : 0 ≤ (x41_3 : Int) := sqD
        have q362 : x41_3 < (x8_9.length : Int) := sqD
        obtain ⟨ad362, e362, hx362_0⟩ := Kd.at_int (Kd.R_reads' HO_39.out).2.2 x41_3 p362 q362
        cases e362
        replace p362 := eq_true p362
        replace q362 := eq_true q362
        go_wp2_with (first | ((with_reducible refine gate_callee (f := 72) rfl ?_); refine goesL_ (some 49) rfl rfl Tryz.func72 (by kernel_rfl) rfl #[.int .u64 (rd x8_9 x41_3), .int .i64 a1] rfl sqA ?_; (with_reducible refine (weigh_written.calls k3 (rd x8_9 x41_3) a1 t363 _ ⟨htab.out.below sqB⟩ A19.out).mono ?_); rintro e w27 ⟨rfl, hb⟩; refine ⟨_, rfl, ?_⟩; have n0_ := Aside0.mk (Kd.R_below (sqR HO_39.out) hb); have n1_ := Aside0.mk (below_step sqB hb); clear HO_39; clear HB; have HO_39 := n0_; have HB := n1_; clear n0_ n1_; (try clear hb); (try clear hb2); (try clear hk); (try clear hi)) | ((with_reducible refine gate_callee (f := 7) rfl ?_); refine goesL_ (some 52) rfl rfl Tryz.func7 (by kernel_rfl) rfl #[.string t363] rfl sqA ?_; (with_reducible refine (weigh_Parse.calls k3 t363 t364 t365 _ A20.out).mono ?_); rintro e w28 ⟨rfl, hb⟩; refine ⟨_, rfl, ?_⟩; have n0_ := Aside0.mk (Kd.R_below (sqR HO_39.out) hb); have n1_ := Aside0.mk (below_step sqB hb); clear HO_39; clear HB; have HO_39 := n0_; have HB := n1_; clear n0_ n1_; (try clear hb); (try clear hb2); (try clear hk); (try clear hi)))
        go_roundg k3
        case measure => have := HJ3.out; have := HJ9.out; have := HK3.out; omega
        case rel => exact ⟨(wrap64 (x41_3 + 1)), sqE, H', ⟨by have := HJ3.out; have := HJ9.out; have := HK3.out; omega⟩, ⟨sqR HO_39.out⟩, ⟨sqB⟩⟩
       rw [if_pos c21] at H
       have c21b0 := beq_iff_eq.mpr c21
       have c21b1 := bne_eq_false_iff_eq.mpr c21
       clear c21
       by_cases c22 : (FloatKind.f64.format.order t364 a0 == some .eq) = true
       ·rw [if_pos c22] at H
        have c22b0 : (FloatKind.f64.format.order t364 a0 == some .eq) = true := c22
        (try (have c22b1 : decide (FloatKind.f64.format.order t364 a0 = some .eq) = true := by simpa using c22))
        (try (have c22b2 : (FloatKind.f64.format.order t364 a0 == some .eq) = true := by simpa using c22))
        clear c22
        simp only [Option.some.injEq, Prod.mk.injEq] at H
        obtain ⟨rfl, rfl⟩ := H
        have p362 : 0 ≤ (x41_3 : Int) := sqD
        have q362 : x41_3 < (x8_9.length : Int) := sqD
        obtain ⟨ad362, e362, hx362_0⟩ := Kd.at_int (Kd.R_reads' HO_39.out).2.2 x41_3 p362 q362
        cases e362
        replace p362 := eq_true p362
        replace q362 := eq_true q362
        go_wp2_with (first | ((with_reducible refine gate_callee (f := 72) rfl ?_); refine goesL_ (some 49) rfl rfl Tryz.func72 (by kernel_rfl) rfl #[.int .u64 (rd x8_9 x41_3), .int .i64 a1] rfl sqA ?_; (with_reducible refine (weigh_written.calls k3 (rd x8_9 x41_3) a1 t363 _ ⟨htab.out.below sqB⟩ A19.out).mono ?_); rintro e w23 ⟨rfl, hb⟩; refine ⟨_, rfl, ?_⟩; have n0_ := Aside0.mk (Kd.R_below (sqR HO_39.out) hb); have n1_ := Aside0.mk (below_step sqB hb); clear HO_39; clear HB; have HO_39 := n0_; have HB := n1_; clear n0_ n1_; (try clear hb); (try clear hb2); (try clear hk); (try clear hi)) | ((with_reducible refine gate_callee (f := 7) rfl ?_); refine goesL_ (some 52) rfl rfl Tryz.func7 (by kernel_rfl) rfl #[.string t363] rfl sqA ?_; (with_reducible refine (weigh_Parse.calls k3 t363 t364 t365 _ A20.out).mono ?_); rintro e w24 ⟨rfl, hb⟩; refine ⟨_, rfl, ?_⟩; have n0_ := Aside0.mk (Kd.R_below (sqR HO_39.out) hb); have n1_ := Aside0.mk (below_step sqB hb); clear HO_39; clear HB; have HO_39 := n0_; have HB := n1_; clear n0_ n1_; (try clear hb); (try clear hb2); (try clear hk); (try clear hi)))
        go_ret2
        exact ⟨sqE', sqB⟩
       rw [if_neg c22] at H
       have c22b0 : (FloatKind.f64.format.order t364 a0 == some .eq) = false := by simpa using c22
       (try (have c22b1 : decide (FloatKind.f64.format.order t364 a0 = some .eq) = false := by simpa using c22))
       (try (have c22b2 : (FloatKind.f64.format.order t364 a0 == some .eq) = false := by simpa using c22))
       (try (have c22b3 : ¬ (FloatKind.f64.format.order t364 a0 = some .eq) := by simpa using c22))
       clear c22
       have H' := Aside0.mk H
       clear H
       have p362 : 0 ≤ (x41_3 : Int) := sqD
       have q362 : x41_3 < (x8_9.length : Int) := sqD
       obtain ⟨ad362, e362, hx362_0⟩ := Kd.at_int (Kd.R_reads' HO_39.out).2.2 x41_3 p362 q362
       cases e362
       replace p362 := eq_true p362
       replace q362 := eq_true q362
       go_wp2_with (first | ((with_reducible refine gate_callee (f := 72) rfl ?_); refine goesL_ (some 49) rfl rfl Tryz.func72 (by kernel_rfl) rfl #[.int .u64 (rd x8_9 x41_3), .int .i64 a1] rfl sqA ?_; (with_reducible refine (weigh_written.calls k3 (rd x8_9 x41_3) a1 t363 _ ⟨htab.out.below sqB⟩ A19.out).mono ?_); rintro e w25 ⟨rfl, hb⟩; refine ⟨_, rfl, ?_⟩; have n0_ := Aside0.mk (Kd.R_below (sqR HO_39.out) hb); have n1_ := Aside0.mk (below_step sqB hb); clear HO_39; clear HB; have HO_39 := n0_; have HB := n1_; clear n0_ n1_; (try clear hb); (try clear hb2); (try clear hk); (try clear hi)) | ((with_reducible refine gate_callee (f := 7) rfl ?_); refine goesL_ (some 52) rfl rfl Tryz.func7 (by kernel_rfl) rfl #[.string t363] rfl sqA ?_; (with_reducible refine (weigh_Parse.calls k3 t363 t364 t365 _ A20.out).mono ?_); rintro e w26 ⟨rfl, hb⟩; refine ⟨_, rfl, ?_⟩; have n0_ := Aside0.mk (Kd.R_below (sqR HO_39.out) hb); have n1_ := Aside0.mk (below_step sqB hb); clear HO_39; clear HB; have HO_39 := n0_; have HB := n1_; clear n0_ n1_; (try clear hb); (try clear hb2); (try clear hk); (try clear hi)))
       go_roundg k3
       case measure => have := HJ3.out; have := HJ9.out; have := HK3.out; omega
       case rel => exact ⟨(wrap64 (x41_3 + 1)), sqE, H', ⟨by have := HJ3.out; have := HJ9.out; have := HK3.out; omega⟩, ⟨sqR HO_39.out⟩, ⟨sqB⟩⟩
mutual
def weigh_Print.j0 : Nat → Nat → ByteArray → Option (ByteArray)
 | 0, _, _ => none
 | k + 1, x0, x3 => if (FloatKind.f64.format.order x0 x0 != some .eq) = true then (some (⟨#[110, 97, 110]⟩ : ByteArray)) else ((math_IsInf.f x0 1).bind fun t367 => (if t367 = true then (if x3.size + 3 ≤ 9223372036854775807 then (some (x3 ++ (⟨#[105, 110, 102]⟩ : ByteArray))) else (none)) else (if (FloatKind.f64.format.order x0 (0 : Nat) == some .eq) = true then (if x3.size + 1 ≤ 9223372036854775807 then (some (x3 ++ (⟨#[48]⟩ : ByteArray))) else (none)) else ((math_Log10.f x0).bind fun t368 => ((math_Floor.f t368).bind fun t369 => ((floatToIntVal .f64 t369 .i64).bind fun t370 => (weigh_Print.l0 k x0 x3 (wrap64 (t370 - 2)))))))))
def weigh_Print.l0 : Nat → Nat → ByteArray → Int → Option (ByteArray)
 | 0, _, _, _ => none
 | k + 1, x0, x3, x4 => (weigh_scaled.f k x0 (wrap64 (x4 + 1))).bind fun t371 => (if t371 > 0 then (weigh_Print.l0 k x0 x3 (wrap64 (x4 + 1))) else (weigh_Print.l1 k x0 x3 x4 1))
def weigh_Print.l1 : Nat → Nat → ByteArray → Int → Int → Option (ByteArray)
 | 0, _, _, _, _ => none
 | k + 1, x0, x3, x4, x5 => (weigh_nearest.f k x0 (wrap64 ((wrap64 (x4 - x5)) + 1))).bind fun bt372 => (if bt372.2 = true then (if x3.size + bt372.1.size ≤ 9223372036854775807 then (some (x3 ++ bt372.1)) else (none)) else (weigh_Print.l1 k x0 x3 x4 (wrap64 (x5 + 1))))
end
def weigh_Print.f (k : Nat) (a0 : Nat) : Option (ByteArray) := (math_Signbit.f a0).bind fun t366 => (if t366 = true then (weigh_Print.j0 k (Op.negFloat .f64 a0) (⟨#[45]⟩ : ByteArray)) else (weigh_Print.j0 k a0 (⟨#[]⟩ : ByteArray)))
theorem weigh_Print.mono_l : ∀ k, (∀ y0 y1, LeO (weigh_Print.j0 k y0 y1) (weigh_Print.j0 (k + 1) y0 y1)) ∧ (∀ y0 y1 y2, LeO (weigh_Print.l0 k y0 y1 y2) (weigh_Print.l0 (k + 1) y0 y1 y2)) ∧ (∀ y0 y1 y2 y3, LeO (weigh_Print.l1 k y0 y1 y2 y3) (weigh_Print.l1 (k + 1) y0 y1 y2 y3))
 | 0 => ⟨fun _ _ r h => by simp [weigh_Print.j0] at h, fun _ _ _ r h => by simp [weigh_Print.l0] at h, fun _ _ _ _ r h => by simp [weigh_Print.l1] at h⟩
 | k + 1 => by
  obtain ⟨ih0, ih1, ih2⟩ := weigh_Print.mono_l k
  refine ⟨?_, ?_, ?_⟩
  ·intro y0 y1
   unfold weigh_Print.j0
   repeat' first | (with_reducible first | apply ih0 | apply ih1 | apply ih2 | apply weigh_nearest.mono | apply weigh_scaled.mono | apply LeO.refl | apply LeO.none | refine LeO.ite ?_ ?_ | refine LeO.bind ?_ (fun _ => ?_)) | apply LeO.none | refine LeO.ite ?_ ?_ | refine LeO.bind ?_ (fun _ => ?_)
  ·intro y0 y1 y2
   unfold weigh_Print.l0
   repeat' first | (with_reducible first | apply ih0 | apply ih1 | apply ih2 | apply weigh_nearest.mono | apply weigh_scaled.mono | apply LeO.refl | apply LeO.none | refine LeO.ite ?_ ?_ | refine LeO.bind ?_ (fun _ => ?_)) | apply LeO.none | refine LeO.ite ?_ ?_ | refine LeO.bind ?_ (fun _ => ?_)
  intro y0 y1 y2 y3
  unfold weigh_Print.l1
  repeat' first | (with_reducible first | apply ih0 | apply ih1 | apply ih2 | apply weigh_nearest.mono | apply weigh_scaled.mono | apply LeO.refl | apply LeO.none | refine LeO.ite ?_ ?_ | refine LeO.bind ?_ (fun _ => ?_)) | apply LeO.none | refine LeO.ite ?_ ?_ | refine LeO.bind ?_ (fun _ => ?_)
theorem weigh_Print.mono : ∀ a0 k, LeO (weigh_Print.f k a0) (weigh_Print.f (k + 1) a0) := by
 intro a0 k
 obtain ⟨ih0, ih1, ih2⟩ := weigh_Print.mono_l k
 unfold weigh_Print.f
 repeat' first | (with_reducible first | apply ih0 | apply ih1 | apply ih2 | apply weigh_nearest.mono | apply weigh_scaled.mono | apply LeO.refl | apply LeO.none | refine LeO.ite ?_ ?_ | refine LeO.bind ?_ (fun _ => ?_)) | apply LeO.none | refine LeO.ite ?_ ?_ | refine LeO.bind ?_ (fun _ => ?_)
theorem weigh_Print.calls (k : Nat) (a0 : Nat) (r : ByteArray) (w : World) (htab : Aside0 (Rm.Tab w)) (h : weigh_Print.f k a0 = some r) :
  Calls Tryz.prog 11 #[.float .f64 a0] w fun e w' => e = .returned (.string r) ∧ Below w.heap.size w w' := by
 have HB := Aside0.mk (Below.refl w.heap.size w)
 have H : ((math_Signbit.f a0).bind fun t366 => (if t366 = true then (weigh_Print.j0 k (Op.negFloat .f64 a0) (⟨#[45]⟩ : ByteArray)) else (weigh_Print.j0 k a0 (⟨#[]⟩ : ByteArray)))) = some r := h
 clear h
 obtain ⟨t366, A2, H⟩ := sqO H
 try dsimp only at H
 have HC3 := Aside0.mk H
 clear H
 go_enter Tryz.func11, Tryz.ntmps11
 go_upto_if 9 with (first | ((with_reducible refine gate_callee (f := 37) rfl ?_); refine goesL_ (some 9) rfl rfl Tryz.func37 (by kernel_rfl) rfl #[.float .f64 a0] rfl sqA ?_; (with_reducible refine (math_Signbit.calls a0 t366 _ A2.out).mono ?_); rintro e w' ⟨rfl, ⟨nd, rfl⟩⟩; refine ⟨_, rfl, ?_⟩))
 (try simp only [Act.put, List.setIfInBounds_toArray, List.set_cons_zero, List.set_cons_succ])
 go_cut [0, 3] (fun v0 v3 wc => ∃ (kq : Nat) (x0_2 : Nat) (x3_2 : ByteArray), v0 = .float .f64 x0_2 ∧ v3 = .string x3_2 ∧ Aside0 (weigh_Print.j0 kq x0_2 x3_2 = some r) ∧ Aside0 (kq ≤ k) ∧ Aside0 (Below w.heap.size w wc))
 case first =>
  have H := HC3.out
  clear HC3
  by_cases c4 : t366 = true
  ·subst c4
   have H1 : (weigh_Print.j0 k (Op.negFloat .f64 a0) (⟨#[45]⟩ : ByteArray)) = some r := by rw [if_pos rfl] at H; exact H
   clear H
   have H := H1
   clear H1
   have H' := Aside0.mk H
   clear H
   go_wp2
   go_meet
   case rel => exact ⟨_, (Op.negFloat .f64 a0), ((⟨#[45]⟩ : ByteArray)), sqE, sqE, H', ⟨by first | omega | exact Nat.le_refl _⟩, ⟨sqB⟩⟩
  replace c4 := Bool.eq_false_iff.mpr c4
  subst c4
  have H1 : (weigh_Print.j0 k a0 (⟨#[]⟩ : ByteArray)) = some r := by rw [if_neg (show ¬ (false = true) by decide)] at H; exact H
  clear H
  have H := H1
  clear H1
  have H' := Aside0.mk H
  clear H
  go_wp2
  go_meet
  case rel => exact ⟨_, (a0), ((⟨#[]⟩ : ByteArray)), sqE, sqE, H', ⟨by first | omega | exact Nat.le_refl _⟩, ⟨sqB⟩⟩
 case rest =>
  clear HC3
  try clear c1
  try clear p2
  try clear c3
  try clear c4
  obtain ⟨kq, x0_2, x3_2, rfl, rfl, HA, HJ2, HB⟩ := hcut
  cases kq with
  | zero => exact absurd HA.out (by simp [weigh_Print.j0])
  | succ kj2 =>
   have H := HA.out
   clear HA
   simp only [weigh_Print.j0] at H
   by_cases c5 : (FloatKind.f64.format.order x0_2 x0_2 != some .eq) = true
   ·rw [if_pos c5] at H
    have c5b0 : (FloatKind.f64.format.order x0_2 x0_2 != some .eq) = true := c5
    (try (have c5b1 : decide (FloatKind.f64.format.order x0_2 x0_2 = some .eq) = false := by simpa using c5))
    (try (have c5b2 : (FloatKind.f64.format.order x0_2 x0_2 == some .eq) = false := by simpa using c5))
    (try (have c5b3 : ¬ (FloatKind.f64.format.order x0_2 x0_2 = some .eq) := by simpa using c5))
    clear c5
    obtain rfl := Option.some.inj H
    go_wp2
    go_ret
    exact ⟨sqE', sqB⟩
   rw [if_neg c5] at H
   have c5b0 : (FloatKind.f64.format.order x0_2 x0_2 != some .eq) = false := by simpa using c5
   (try (have c5b1 : decide (FloatKind.f64.format.order x0_2 x0_2 = some .eq) = true := by simpa using c5))
   (try (have c5b2 : (FloatKind.f64.format.order x0_2 x0_2 == some .eq) = true := by simpa using c5))
   clear c5
   obtain ⟨t367, A6, H⟩ := sqO H
   try dsimp only at H
   by_cases c7 : t367 = true
   ·subst c7
    have H1 : (if x3_2.size + 3 ≤ 9223372036854775807 then (some (x3_2 ++ (⟨#[105, 110, 102]⟩ : ByteArray))) else (none)) = some r := by rw [if_pos rfl] at H; exact H
    clear H
    have H := H1
    clear H1
    by_cases c8 : x3_2.size + 3 ≤ 9223372036854775807
    case neg => rw [if_neg c8] at H; exact absurd H (by simp)
    rw [if_pos c8] at H
    have c8b0 := eq_true c8
    have c8b1 := decide_eq_true c8
    try have c8b2 : (9223372036854775807 < x3_2.size + 3) = False := eq_false (Nat.not_lt.2 c8)
    obtain rfl := Option.some.inj H
    go_wp2_with (first | ((with_reducible refine gate_callee (f := 30) rfl ?_); refine goesL_ (some 18) rfl rfl Tryz.func30 (by kernel_rfl) rfl #[.float .f64 x0_2, .int .i64 1] rfl sqA ?_; (with_reducible refine (math_IsInf.calls x0_2 1 true _ A6.out).mono ?_); rintro e w' ⟨rfl, ⟨nd, rfl⟩⟩; refine ⟨_, rfl, ?_⟩))
    go_ret
    exact ⟨sqE', sqB⟩
   replace c7 := Bool.eq_false_iff.mpr c7
   subst c7
   have H1 : (if (FloatKind.f64.format.order x0_2 (0 : Nat) == some .eq) = true then (if x3_2.size + 1 ≤ 9223372036854775807 then (some (x3_2 ++ (⟨#[48]⟩ : ByteArray))) else (none)) else ((math_Log10.f x0_2).bind fun t368 => ((math_Floor.f t368).bind fun t369 => ((floatToIntVal .f64 t369 .i64).bind fun t370 => (weigh_Print.l0 kj2 x0_2 x3_2 (wrap64 (t370 - 2))))))) = some r := by rw [if_neg (show ¬ (false = true) by decide)] at H; exact H
   clear H
   have H := H1
   clear H1
   by_cases c9 : (FloatKind.f64.format.order x0_2 (0 : Nat) == some .eq) = true
   ·rw [if_pos c9] at H
    have c9b0 : (FloatKind.f64.format.order x0_2 (0 : Nat) == some .eq) = true := c9
    (try (have c9b1 : decide (FloatKind.f64.format.order x0_2 (0 : Nat) = some .eq) = true := by simpa using c9))
    (try (have c9b2 : (FloatKind.f64.format.order x0_2 (0 : Nat) == some .eq) = true := by simpa using c9))
    clear c9
    by_cases c10 : x3_2.size + 1 ≤ 9223372036854775807
    case neg => rw [if_neg c10] at H; exact absurd H (by simp)
    rw [if_pos c10] at H
    have c10b0 := eq_true c10
    have c10b1 := decide_eq_true c10
    try have c10b2 : (9223372036854775807 < x3_2.size + 1) = False := eq_false (Nat.not_lt.2 c10)
    obtain rfl := Option.some.inj H
    go_wp2_with (first | ((with_reducible refine gate_callee (f := 30) rfl ?_); refine goesL_ (some 18) rfl rfl Tryz.func30 (by kernel_rfl) rfl #[.float .f64 x0_2, .int .i64 1] rfl sqA ?_; (with_reducible refine (math_IsInf.calls x0_2 1 false _ A6.out).mono ?_); rintro e w' ⟨rfl, ⟨nd, rfl⟩⟩; refine ⟨_, rfl, ?_⟩))
    go_ret
    exact ⟨sqE', sqB⟩
   rw [if_neg c9] at H
   have c9b0 : (FloatKind.f64.format.order x0_2 (0 : Nat) == some .eq) = false := by simpa using c9
   (try (have c9b1 : decide (FloatKind.f64.format.order x0_2 (0 : Nat) = some .eq) = false := by simpa using c9))
   (try (have c9b2 : (FloatKind.f64.format.order x0_2 (0 : Nat) == some .eq) = false := by simpa using c9))
   (try (have c9b3 : ¬ (FloatKind.f64.format.order x0_2 (0 : Nat) = some .eq) := by simpa using c9))
   clear c9
   obtain ⟨t368, A11, H⟩ := sqO H
   try dsimp only at H
   obtain ⟨t369, A12, H⟩ := sqO H
   try dsimp only at H
   replace H := Option.bind_eq_some_iff.mp H
   obtain ⟨t370, A130, H⟩ := H
   try dsimp only at H
   have hf14 : ∀ w_ : World, Sem.run Tryz.prog (convert 22 3 (.float .f64 t369)) w_ = .ok (.int .i64 t370) w_ := fun w_ => run_convert_float_int w_ 22 3 .f64 .i64 t369 t370 (by rw [Tryz.underlying22]; rfl) Tryz.underlying3 A130
   clear A130
   have H' := Aside0.mk H
   clear H
   go_wp2_with (first | ((with_reducible refine gate_callee (f := 30) rfl ?_); refine goesL_ (some 18) rfl rfl Tryz.func30 (by kernel_rfl) rfl #[.float .f64 x0_2, .int .i64 1] rfl sqA ?_; (with_reducible refine (math_IsInf.calls x0_2 1 false _ A6.out).mono ?_); rintro e w' ⟨rfl, ⟨nd, rfl⟩⟩; refine ⟨_, rfl, ?_⟩) | ((with_reducible refine gate_callee (f := 39) rfl ?_); refine goesL_ (some 27) rfl rfl Tryz.func39 (by kernel_rfl) rfl #[.float .f64 x0_2] rfl sqA ?_; (with_reducible refine (math_Log10.calls x0_2 t368 _ A11.out).mono ?_); rintro e w' ⟨rfl, ⟨nd, rfl⟩⟩; refine ⟨_, rfl, ?_⟩) | ((with_reducible refine gate_callee (f := 38) rfl ?_); refine goesL_ (some 28) rfl rfl Tryz.func38 (by kernel_rfl) rfl #[.float .f64 t368] rfl sqA ?_; (with_reducible refine (math_Floor.calls t368 t369 _ A12.out).mono ?_); rintro e w' ⟨rfl, ⟨nd, rfl⟩⟩; refine ⟨_, rfl, ?_⟩))
   try simp only [Act.put, List.setIfInBounds_toArray, List.set_cons_zero, List.set_cons_succ]
   go_loopg [4] kj2 (fun kq v4 w' => ∃ (x4_2 : Int), v4 = .int .i64 x4_2 ∧ Aside0 (weigh_Print.l0 kq x0_2 x3_2 x4_2 = some r) ∧ Aside0 (kq ≤ kj2) ∧ Aside0 (Below w.heap.size w w'))
   case atStart => exact ⟨(wrap64 (t370 - 2)), sqE, H', ⟨Nat.le_refl _⟩, ⟨sqB⟩⟩
   case round =>
    clear H'
    try clear c1
    try clear hf1
    try clear p2
    try clear c3
    try clear c4
    try clear c5
    try clear c5b0
    try clear c5b1
    try clear c5b2
    try clear p6
    try clear c7
    try clear c8
    try clear c8b0
    try clear c8b1
    try clear c8b2
    try clear c9
    try clear c9b0
    try clear c9b1
    try clear c9b2
    try clear c10
    try clear c10b0
    try clear c10b1
    try clear c10b2
    try clear c11
    try clear hf14
    try clear p2
    obtain ⟨x4_2, rfl, HA, HK2, HB⟩ := hrel
    cases gk with
    | zero => exact absurd HA.out (by simp [weigh_Print.l0])
    | succ k2 =>
     have H := HA.out
     clear HA
     simp only [weigh_Print.l0] at H
     obtain ⟨t371, A15, H⟩ := sqO H
     try dsimp only at H
     by_cases c16 : t371 > 0
     ·rw [if_pos c16] at H
      have c16b0 := decide_eq_true c16
      clear c16
      have H' := Aside0.mk H
      clear H
      go_wp2_with (first | ((with_reducible refine gate_callee (f := 40) rfl ?_); refine goesL_ (some 34) rfl rfl Tryz.func40 (by kernel_rfl) rfl #[.float .f64 x0_2, .int .i64 (wrap64 (x4_2 + 1))] rfl sqA ?_; (with_reducible refine (weigh_scaled.calls k2 x0_2 (wrap64 (x4_2 + 1)) t371 _ A15.out).mono ?_); rintro e w17 ⟨rfl, hb⟩; refine ⟨_, rfl, ?_⟩; have n0_ := Aside0.mk (below_step sqB hb); clear HB; have HB := n0_; clear n0_; (try clear hb); (try clear hb2); (try clear hk); (try clear hi)))
      go_roundg k2
      case measure => have := HJ2.out; have := HK2.out; omega
      case rel => exact ⟨(wrap64 (x4_2 + 1)), sqE, H', ⟨by have := HJ2.out; have := HK2.out; omega⟩, ⟨sqB⟩⟩
     rw [if_neg c16] at H
     have c16b0 := decide_eq_false c16
     clear c16
     have H' := Aside0.mk H
     clear H
     go_wp2_with (first | ((with_reducible refine gate_callee (f := 40) rfl ?_); refine goesL_ (some 34) rfl rfl Tryz.func40 (by kernel_rfl) rfl #[.float .f64 x0_2, .int .i64 (wrap64 (x4_2 + 1))] rfl sqA ?_; (with_reducible refine (weigh_scaled.calls k2 x0_2 (wrap64 (x4_2 + 1)) t371 _ A15.out).mono ?_); rintro e w18 ⟨rfl, hb⟩; refine ⟨_, rfl, ?_⟩; have n0_ := Aside0.mk (below_step sqB hb); clear HB; have HB := n0_; clear n0_; (try clear hb); (try clear hb2); (try clear hk); (try clear hi)))
     try simp only [Act.put, List.setIfInBounds_toArray, List.set_cons_zero, List.set_cons_succ]
     go_loopg [5] k2 (fun kq v5 w' => ∃ (x5_3 : Int), v5 = .int .i64 x5_3 ∧ Aside0 (weigh_Print.l1 kq x0_2 x3_2 x4_2 x5_3 = some r) ∧ Aside0 (kq ≤ k2) ∧ Aside0 (Below w.heap.size w w'))
     case atStart => exact ⟨(1), sqE, H', ⟨Nat.le_refl _⟩, ⟨sqB⟩⟩
     case round =>
      clear H'
      try clear c1
      try clear hf1
      try clear p2
      try clear c3
      try clear c4
      try clear c5
      try clear c5b0
      try clear c5b1
      try clear c5b2
      try clear p6
      try clear c7
      try clear c8
      try clear c8b0
      try clear c8b1
      try clear c8b2
      try clear c9
      try clear c9b0
      try clear c9b1
      try clear c9b2
      try clear c10
      try clear c10b0
      try clear c10b1
      try clear c10b2
      try clear c11
      try clear hf14
      try clear c16
      try clear c16b0
      try clear p2
      try clear p6
      obtain ⟨x5_3, rfl, HA, HK3, HB⟩ := hrel
      cases gk with
      | zero => exact absurd HA.out (by simp [weigh_Print.l1])
      | succ k3 =>
       have H := HA.out
       clear HA
       simp only [weigh_Print.l1] at H
       obtain ⟨⟨t372, t373⟩, A19, H⟩ := sqO H
       try dsimp only at H
       by_cases c20 : t373 = true
       case neg =>
        replace c20 := Bool.eq_false_iff.mpr c20
        subst c20
        have H1 : (weigh_Print.l1 k3 x0_2 x3_2 x4_2 (wrap64 (x5_3 + 1))) = some r := by rw [if_neg (show ¬ (false = true) by decide)] at H; exact H
        clear H
        have H := H1
        clear H1
        have H' := Aside0.mk H
        clear H
        go_wp2_with (first | ((with_reducible refine gate_callee (f := 41) rfl ?_); refine goesL_ (some 46) rfl rfl Tryz.func41 (by kernel_rfl) rfl #[.float .f64 x0_2, .int .i64 (wrap64 ((wrap64 (x4_2 - x5_3)) + 1))] rfl sqA ?_; (with_reducible refine (weigh_nearest.calls k3 x0_2 (wrap64 ((wrap64 (x4_2 - x5_3)) + 1)) t372 false _ ⟨htab.out.below sqB⟩ A19.out).mono ?_); rintro e w23 ⟨rfl, hb⟩; refine ⟨_, rfl, ?_⟩; have n0_ := Aside0.mk (below_step sqB hb); clear HB; have HB := n0_; clear n0_; (try clear hb); (try clear hb2); (try clear hk); (try clear hi)))
        go_roundg k3
        case measure => have := HJ2.out; have := HK2.out; have := HK3.out; omega
        case rel => exact ⟨(wrap64 (x5_3 + 1)), sqE, H', ⟨by have := HJ2.out; have := HK2.out; have := HK3.out; omega⟩, ⟨sqB⟩⟩
       subst c20
       have H1 : (if x3_2.size + t372.size ≤ 9223372036854775807 then (some (x3_2 ++ t372)) else (none)) = some r := by rw [if_pos rfl] at H; exact H
       clear H
       have H := H1
       clear H1
       by_cases c21 : x3_2.size + t372.size ≤ 9223372036854775807
       case neg => rw [if_neg c21] at H; exact absurd H (by simp)
       rw [if_pos c21] at H
       have c21b0 := eq_true c21
       have c21b1 := decide_eq_true c21
       try have c21b2 : (9223372036854775807 < x3_2.size + t372.size) = False := eq_false (Nat.not_lt.2 c21)
       obtain rfl := Option.some.inj H
       go_wp2_with (first | ((with_reducible refine gate_callee (f := 41) rfl ?_); refine goesL_ (some 46) rfl rfl Tryz.func41 (by kernel_rfl) rfl #[.float .f64 x0_2, .int .i64 (wrap64 ((wrap64 (x4_2 - x5_3)) + 1))] rfl sqA ?_; (with_reducible refine (weigh_nearest.calls k3 x0_2 (wrap64 ((wrap64 (x4_2 - x5_3)) + 1)) t372 true _ ⟨htab.out.below sqB⟩ A19.out).mono ?_); rintro e w22 ⟨rfl, hb⟩; refine ⟨_, rfl, ?_⟩; have n0_ := Aside0.mk (below_step sqB hb); clear HB; have HB := n0_; clear n0_; (try clear hb); (try clear hb2); (try clear hk); (try clear hi)))
       go_ret
       exact ⟨sqE', sqB⟩
def weigh_Sum.l0 : Nat → Nat → List Nat → Int → Int → Option (Nat)
 | 0, _, _, _, _ => none
 | k + 1, x3, x6, x7, x8 => if x8 < x7 then (if 0 ≤ x8 then (if x8 < (x6.length : Int) then ((floatBits .add .f64 x3 (rdOf 0 x6 x8)).bind fun t375 => (weigh_Sum.l0 k t375 x6 x7 (wrap64 (x8 + 1)))) else (none)) else (none)) else (some x3)
def weigh_Sum.f (k : Nat) (l0 : List Nat) : Option (Nat) := weigh_Sum.l0 k (0 : Nat) l0 (l0.length : Int) 0
theorem weigh_Sum.mono_l : ∀ k, (∀ y0 y1 y2 y3, LeO (weigh_Sum.l0 k y0 y1 y2 y3) (weigh_Sum.l0 (k + 1) y0 y1 y2 y3))
 | 0 => fun _ _ _ _ r h => by simp [weigh_Sum.l0] at h
 | k + 1 => by
  have ih0 := weigh_Sum.mono_l k
  intro y0 y1 y2 y3
  unfold weigh_Sum.l0
  repeat' first | (with_reducible first | apply ih0 | apply LeO.refl | apply LeO.none | refine LeO.ite ?_ ?_ | refine LeO.bind ?_ (fun _ => ?_)) | apply LeO.none | refine LeO.ite ?_ ?_ | refine LeO.bind ?_ (fun _ => ?_)
theorem weigh_Sum.mono : ∀ a0 k, LeO (weigh_Sum.f k a0) (weigh_Sum.f (k + 1) a0) := by
 intro a0 k
 have ih0 := weigh_Sum.mono_l k
 unfold weigh_Sum.f
 repeat' first | (with_reducible first | apply ih0 | apply LeO.refl | apply LeO.none | refine LeO.ite ?_ ?_ | refine LeO.bind ?_ (fun _ => ?_)) | apply LeO.none | refine LeO.ite ?_ ?_ | refine LeO.bind ?_ (fun _ => ?_)
theorem weigh_Sum.calls (k : Nat) (A0 : Option Addr) (c0 : Nat) (l0 : List Nat) (r : Nat) (w : World) (hr0 : Kd.C Kd.flt w A0 l0.length l0) (hc0 : l0.length ≤ c0) (h : weigh_Sum.f k l0 = some r) :
  Calls Tryz.prog 15 #[.slice A0 l0.length c0] w fun e w' => e = .returned (.float .f64 r) ∧ Drawn0 w w' := by
 have HR0 := Aside0.mk hr0
 have HC0 := Aside0.mk hc0
 clear hr0 hc0
 have H : (weigh_Sum.l0 k (0 : Nat) l0 (l0.length : Int) 0) = some r := h
 clear h
 have H' := Aside0.mk H
 clear H
 go_enter Tryz.func15, Tryz.ntmps15
 go_wp2
 go_loopg [3, 8] k (fun kq v3 v8 w' => ∃ (x3_1 : Nat) (x8_1 : Int), v3 = .float .f64 x3_1 ∧ v8 = .int .i64 x8_1 ∧ Aside0 (weigh_Sum.l0 kq x3_1 l0 (l0.length : Int) x8_1 = some r) ∧ Aside0 (kq ≤ k) ∧ Drawn0 w w')
 case atStart => exact ⟨((0 : Nat)), (0), sqE, sqE, H', ⟨Nat.le_refl _⟩, sqW⟩
 case round =>
  clear H'
  try clear c1
  obtain ⟨x3_1, x8_1, rfl, rfl, HA, HK1, ⟨m1, rfl⟩⟩ := hrel
  cases gk with
  | zero => exact absurd HA.out (by simp [weigh_Sum.l0])
  | succ k1 =>
   have H := HA.out
   clear HA
   simp only [weigh_Sum.l0] at H
   by_cases c2 : x8_1 < (l0.length : Int)
   case neg =>
    rw [if_neg c2] at H
    have c2b0 := decide_eq_false c2
    clear c2
    obtain rfl := Option.some.inj H
    go_wp2
    go_ret
    exact ⟨sqE, sqW⟩
   rw [if_pos c2] at H
   have c2b0 := decide_eq_true c2
   clear c2
   by_cases c3 : 0 ≤ x8_1
   case neg => rw [if_neg c3] at H; exact absurd H (by simp)
   rw [if_pos c3] at H
   have c3b0 := decide_eq_true c3
   clear c3
   by_cases c4 : x8_1 < (l0.length : Int)
   case neg => rw [if_neg c4] at H; exact absurd H (by simp)
   rw [if_pos c4] at H
   have c4b0 := decide_eq_true c4
   clear c4
   replace H := Option.bind_eq_some_iff.mp H
   obtain ⟨t375, A50, H⟩ := H
   try dsimp only at H
   have hf6 : ∀ w_ : World, Sem.run Tryz.prog (binOp .add 22 (.float .f64 x3_1) (.float .f64 (rdOf 0 l0 x8_1))) w_ = .ok (.float .f64 t375) w_ := fun w_ => run_float_arith w_ .add 22 .f64 x3_1 (rdOf 0 l0 x8_1) t375 A50
   clear A50
   have H' := Aside0.mk H
   clear H
   have p374 : 0 ≤ (x8_1 : Int) := sqD
   have q374 : x8_1 < (l0.length : Int) := sqD
   obtain ⟨ad374, e374, hx374_0⟩ := Kd.at_flt HR0.out x8_1 p374 q374
   cases e374
   replace p374 := eq_true p374
   replace q374 := eq_true q374
   go_wp2
   go_roundg k1
   case measure => have := HK1.out; omega
   case rel => exact ⟨(t375), (wrap64 (x8_1 + 1)), sqE, sqE, H', ⟨by have := HK1.out; omega⟩, sqW⟩
end Go.Proofs.YtfmjdoofopamkaaGreatDoor.W
