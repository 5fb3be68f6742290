import Derived.Test.YtnoppeocbfapdaaGreatDoorTx0
import Derived.Test.YtnoppeocbfapdaaGreatDoorTx1
import Derived.Test.YtnoppeocbfapdaaGreatDoorTx5
import Derived.Test.YtnoppeocbfapdaaGreatDoorTx15
namespace Go.Proofs.YtnoppeocbfapdaaGreatDoor.T
open Go.RowKit Go.Proofs.YtnoppeocbfapdaaGreatDoorW.PrintWords Go.Proofs.YtnoppeocbfapdaaGreatDoorW.PrintLast Go.Proofs.YtnoppeocbfapdaaGreatDoorW.PrintMore
set_option maxHeartbeats 8000000
set_option maxRecDepth 100000
attribute [local go_sem] max2_int min2_int max_two min_two max_three min_three max_four min_four
set_option linter.unusedVariables false
set_option linter.unusedSimpArgs false
def endonymref6_Same.l0 : Nat → List (S25) → List (S25) → Int → Option (Bool)
 | 0, _, _, _ => none
 | k + 1, x0, x1, x5 => if x5 < (x0.length : Int) then (if 0 ≤ x5 then (if x5 < (x1.length : Int) then ((endonymref6_SameRecord.f k ((rd_T25 x0 x5).f0) ((rd_T25 x0 x5).f1) ((rd_T25 x0 x5).f2) ((rd_T25 x0 x5).f3) ((rd_T25 x0 x5).f4) ((rd_T25 x0 x5).f5) ((rd_T25 x0 x5).f6) ((rd_T25 x0 x5).f7) ((rd_T25 x1 x5).f0) ((rd_T25 x1 x5).f1) ((rd_T25 x1 x5).f2) ((rd_T25 x1 x5).f3) ((rd_T25 x1 x5).f4) ((rd_T25 x1 x5).f5) ((rd_T25 x1 x5).f6) ((rd_T25 x1 x5).f7)).bind fun t536 => (if t536 = true then (endonymref6_Same.l0 k x0 x1 (wrap64 (x5 + 1))) else (some false))) else (none)) else (none)) else (some true)
def endonymref6_Same.f (k : Nat) (l0 : List (S25)) (l1 : List (S25)) : Option (Bool) := if (l0.length : Int) = (l1.length : Int) then (endonymref6_Same.l0 k l0 l1 0) else (some false)
theorem endonymref6_Same.mono_l : ∀ k, (∀ y0 y1 y2, LeO (endonymref6_Same.l0 k y0 y1 y2) (endonymref6_Same.l0 (k + 1) y0 y1 y2))
 | 0 => fun _ _ _ r h => by simp [endonymref6_Same.l0] at h
 | k + 1 => by
  have ih0 := endonymref6_Same.mono_l k
  intro y0 y1 y2
  unfold endonymref6_Same.l0
  repeat' first | (with_reducible first | apply ih0 | apply endonymref6_SameRecord.mono | apply LeO.refl | apply LeO.none | refine LeO.ite ?_ ?_ | refine LeO.bind ?_ (fun _ => ?_)) | apply LeO.none | refine LeO.ite ?_ ?_ | refine LeO.bind ?_ (fun _ => ?_)
theorem endonymref6_Same.mono : ∀ a0 a1 k, LeO (endonymref6_Same.f k a0 a1) (endonymref6_Same.f (k + 1) a0 a1) := by
 intro a0 a1 k
 have ih0 := endonymref6_Same.mono_l k
 unfold endonymref6_Same.f
 repeat' first | (with_reducible first | apply ih0 | apply endonymref6_SameRecord.mono | apply LeO.refl | apply LeO.none | refine LeO.ite ?_ ?_ | refine LeO.bind ?_ (fun _ => ?_)) | apply LeO.none | refine LeO.ite ?_ ?_ | refine LeO.bind ?_ (fun _ => ?_)
def endonymref6_Same.T6 : Bool × List (List Nat × List Nat) := (true, [([], []), ([], []), ([0, 1], [0, 1]), ([2], [2]), ([], []), ([], []), ([4, 5], [4, 5]), ([6], [6]), ([3, 7], [3, 7]), ([8], [8])])
def endonymref6_Same.B6 : List Nat := [0, 0, 3, 7, 0, 0, 48, 112, 255, 511]
theorem endonymref6_Same.tab6 : rtab .any (opsOf Tryz.f26 6) = endonymref6_Same.T6 := by kernel_rfl
theorem endonymref6_Same.bits6 : waitsOk endonymref6_Same.T6.2 endonymref6_Same.B6 = true := by kernel_rfl
theorem endonymref6_Same.calls (k : Nat) (A0 : Option Addr) (c0 : Nat) (l0 : List (S25)) (A1 : Option Addr) (c1 : Nat) (l1 : List (S25)) (r : Bool) (w : World) (hr0 : Kd.C k25 w A0 l0.length l0) (hc0 : l0.length ≤ c0) (hr1 : Kd.C k25 w A1 l1.length l1) (hc1 : l1.length ≤ c1) (h : endonymref6_Same.f k l0 l1 = some r) :
  Calls Tryz.prog 26 #[.slice A0 l0.length c0, .slice A1 l1.length c1] w fun e w' => e = .returned (.bool r) ∧ Below w.heap.size w w' := by
 have hu25 := Tryz.underlying25
 have HR0 := Aside0.mk hr0
 have HC0 := Aside0.mk hc0
 clear hr0 hc0
 have HR1 := Aside0.mk hr1
 have HC1 := Aside0.mk hc1
 clear hr1 hc1
 have HB := Aside0.mk (Below.refl w.heap.size w)
 have H : (if (l0.length : Int) = (l1.length : Int) then (endonymref6_Same.l0 k l0 l1 0) else (some false)) = some r := h
 clear h
 by_cases c3 : (l0.length : Int) = (l1.length : Int)
 case neg =>
  rw [if_neg c3] at H
  have c3b0 := beq_eq_false_iff_ne.mpr c3
  have c3b1 := bne_iff_ne.mpr c3
  have c3b2 : (l0.length == l1.length) = false := by first | simpa using c3 | (simp at c3 ⊢; omega)
  obtain rfl := Option.some.inj H
  go_enter Tryz.func26, Tryz.ntmps26
  go_wp2
  go_ret
  exact ⟨sqE', sqB⟩
 rw [if_pos c3] at H
 have c3b0 := beq_iff_eq.mpr c3
 have c3b1 := bne_eq_false_iff_eq.mpr c3
 have c3b2 : (l0.length == l1.length) = true := by first | simpa using c3 | (simp at c3 ⊢; omega)
 clear c3
 have H' := Aside0.mk H
 clear H
 go_enter Tryz.func26, Tryz.ntmps26
 go_wp2
 go_loopg [5] k (fun kq v5 w' => ∃ (x5_1 : Int), v5 = .int .i64 x5_1 ∧ Aside0 (endonymref6_Same.l0 kq l0 l1 x5_1 = some r) ∧ Aside0 (kq ≤ k) ∧ Aside0 (Below w.heap.size w w'))
 case atStart => exact ⟨(0), sqE, H', ⟨Nat.le_refl _⟩, ⟨sqB⟩⟩
 case round =>
  clear H'
  try clear c1
  try clear c2
  try clear p2
  try clear c3
  try clear c3b0
  try clear c3b1
  try clear c3b2
  obtain ⟨x5_1, rfl, HA, HK1, HB⟩ := hrel
  cases gk with
  | zero => exact absurd HA.out (by simp [endonymref6_Same.l0])
  | succ k1 =>
   have H := HA.out
   clear HA
   simp only [endonymref6_Same.l0] at H
   by_cases c4 : x5_1 < (l0.length : Int)
   case neg =>
    rw [if_neg c4] at H
    have c4b0 := decide_eq_false c4
    clear c4
    obtain rfl := Option.some.inj H
    go_wp2
    go_ret
    exact ⟨sqE', sqB⟩
   rw [if_pos c4] at H
   have c4b0 := decide_eq_true c4
   clear c4
   by_cases c5 : 0 ≤ x5_1
   case neg => rw [if_neg c5] at H; exact absurd H (by simp)
   rw [if_pos c5] at H
   have c5b0 := decide_eq_true c5
   clear c5
   by_cases c6 : x5_1 < (l1.length : Int)
   case neg => rw [if_neg c6] at H; exact absurd H (by simp)
   rw [if_pos c6] at H
   have c6b0 := decide_eq_true c6
   clear c6
   obtain ⟨t536, A7, H⟩ := sqO H
   try dsimp only at H
   by_cases c8 : t536 = true
   ·subst c8
    have H1 : (endonymref6_Same.l0 k1 l0 l1 (wrap64 (x5_1 + 1))) = some r := by rw [if_pos rfl] at H; exact H
    clear H
    have H := H1
    clear H1
    have H' := Aside0.mk H
    clear H
    try go_wp2
    have n0_ := Aside0.mk (below_drew1 HB.out)
    clear HB
    have HB := n0_
    clear n0_
    have p534 : 0 ≤ (x5_1 : Int) := sqD
    have q534 : x5_1 < (l0.length : Int) := sqD
    obtain ⟨ad534, A534_4, c534_4, e534, hx534_0, hx534_1, hx534_2, hx534_3, hx534_4, hx534_5, hx534_6, hx534_7, hl534_4, hi534_4⟩ := at_T25 HR0.out x5_1 p534 q534
    have hw534_7 := hx534_7
    have hw534_6 := hx534_6
    have hw534_5 := hx534_5
    have hw534_4 := hx534_4
    have hw534_3 := hx534_3
    have hw534_2 := hx534_2
    have hw534_1 := hx534_1
    have hw534_0 := hx534_0
    cases e534
    replace hx534_0 := (HB.out.cell (World.block_lt_of_cell? w _ hx534_0)).trans hx534_0
    replace hx534_1 := (HB.out.cell (World.block_lt_of_cell? w _ hx534_1)).trans hx534_1
    replace hx534_2 := (HB.out.cell (World.block_lt_of_cell? w _ hx534_2)).trans hx534_2
    replace hx534_3 := (HB.out.cell (World.block_lt_of_cell? w _ hx534_3)).trans hx534_3
    replace hx534_4 := (HB.out.cell (World.block_lt_of_cell? w _ hx534_4)).trans hx534_4
    replace hx534_5 := (HB.out.cell (World.block_lt_of_cell? w _ hx534_5)).trans hx534_5
    replace hx534_6 := (HB.out.cell (World.block_lt_of_cell? w _ hx534_6)).trans hx534_6
    replace hx534_7 := (HB.out.cell (World.block_lt_of_cell? w _ hx534_7)).trans hx534_7
    have HR534_4 := Aside0.mk hi534_4
    have HC534_4 := Aside0.mk hl534_4
    clear hi534_4 hl534_4
    replace p534 := eq_true p534
    replace q534 := eq_true q534
    have p535 : 0 ≤ (x5_1 : Int) := sqD
    have q535 : x5_1 < (l1.length : Int) := sqD
    obtain ⟨ad535, A535_4, c535_4, e535, hx535_0, hx535_1, hx535_2, hx535_3, hx535_4, hx535_5, hx535_6, hx535_7, hl535_4, hi535_4⟩ := at_T25 HR1.out x5_1 p535 q535
    have hw535_7 := hx535_7
    have hw535_6 := hx535_6
    have hw535_5 := hx535_5
    have hw535_4 := hx535_4
    have hw535_3 := hx535_3
    have hw535_2 := hx535_2
    have hw535_1 := hx535_1
    have hw535_0 := hx535_0
    cases e535
    replace hx535_0 := (HB.out.cell (World.block_lt_of_cell? w _ hx535_0)).trans hx535_0
    replace hx535_1 := (HB.out.cell (World.block_lt_of_cell? w _ hx535_1)).trans hx535_1
    replace hx535_2 := (HB.out.cell (World.block_lt_of_cell? w _ hx535_2)).trans hx535_2
    replace hx535_3 := (HB.out.cell (World.block_lt_of_cell? w _ hx535_3)).trans hx535_3
    replace hx535_4 := (HB.out.cell (World.block_lt_of_cell? w _ hx535_4)).trans hx535_4
    replace hx535_5 := (HB.out.cell (World.block_lt_of_cell? w _ hx535_5)).trans hx535_5
    replace hx535_6 := (HB.out.cell (World.block_lt_of_cell? w _ hx535_6)).trans hx535_6
    replace hx535_7 := (HB.out.cell (World.block_lt_of_cell? w _ hx535_7)).trans hx535_7
    have HR535_4 := Aside0.mk hi535_4
    have HC535_4 := Aside0.mk hl535_4
    clear hi535_4 hl535_4
    replace p535 := eq_true p535
    replace q535 := eq_true q535
    refine start_ (n := 10) (S := fun w' => w'.cell? (ad534.add ((x5_1).toNat * 8)) = some (.int .i64 ((rd_T25 l0 x5_1).f0)) ∧ w'.cell? ⟨(ad534.add ((x5_1).toNat * 8)).block, (ad534.add ((x5_1).toNat * 8)).off + 1, none⟩ = some (.int .i64 ((rd_T25 l0 x5_1).f1)) ∧ w'.cell? ⟨(ad534.add ((x5_1).toNat * 8)).block, (ad534.add ((x5_1).toNat * 8)).off + 2, none⟩ = some (.int .i64 ((rd_T25 l0 x5_1).f2)) ∧ w'.cell? ⟨(ad534.add ((x5_1).toNat * 8)).block, (ad534.add ((x5_1).toNat * 8)).off + 3, none⟩ = some (.int .i64 ((rd_T25 l0 x5_1).f3)) ∧ w'.cell? ⟨(ad534.add ((x5_1).toNat * 8)).block, (ad534.add ((x5_1).toNat * 8)).off + 4, none⟩ = some (.slice A534_4 ((rd_T25 l0 x5_1).f4).length c534_4) ∧ w'.cell? ⟨(ad534.add ((x5_1).toNat * 8)).block, (ad534.add ((x5_1).toNat * 8)).off + 5, none⟩ = some (.string ((rd_T25 l0 x5_1).f5)) ∧ w'.cell? ⟨(ad534.add ((x5_1).toNat * 8)).block, (ad534.add ((x5_1).toNat * 8)).off + 6, none⟩ = some (.string ((rd_T25 l0 x5_1).f6)) ∧ w'.cell? ⟨(ad534.add ((x5_1).toNat * 8)).block, (ad534.add ((x5_1).toNat * 8)).off + 7, none⟩ = some (.float .f64 ((rd_T25 l0 x5_1).f7)) ∧ w'.cell? (ad535.add ((x5_1).toNat * 8)) = some (.int .i64 ((rd_T25 l1 x5_1).f0)) ∧ w'.cell? ⟨(ad535.add ((x5_1).toNat * 8)).block, (ad535.add ((x5_1).toNat * 8)).off + 1, none⟩ = some (.int .i64 ((rd_T25 l1 x5_1).f1)) ∧ w'.cell? ⟨(ad535.add ((x5_1).toNat * 8)).block, (ad535.add ((x5_1).toNat * 8)).off + 2, none⟩ = some (.int .i64 ((rd_T25 l1 x5_1).f2)) ∧ w'.cell? ⟨(ad535.add ((x5_1).toNat * 8)).block, (ad535.add ((x5_1).toNat * 8)).off + 3, none⟩ = some (.int .i64 ((rd_T25 l1 x5_1).f3)) ∧ w'.cell? ⟨(ad535.add ((x5_1).toNat * 8)).block, (ad535.add ((x5_1).toNat * 8)).off + 4, none⟩ = some (.slice A535_4 ((rd_T25 l1 x5_1).f4).length c535_4) ∧ w'.cell? ⟨(ad535.add ((x5_1).toNat * 8)).block, (ad535.add ((x5_1).toNat * 8)).off + 5, none⟩ = some (.string ((rd_T25 l1 x5_1).f5)) ∧ w'.cell? ⟨(ad535.add ((x5_1).toNat * 8)).block, (ad535.add ((x5_1).toNat * 8)).off + 6, none⟩ = some (.string ((rd_T25 l1 x5_1).f6)) ∧ w'.cell? ⟨(ad535.add ((x5_1).toNat * 8)).block, (ad535.add ((x5_1).toNat * 8)).off + 7, none⟩ = some (.float .f64 ((rd_T25 l1 x5_1).f7))) (ds := []) #[false, false, false, false, false, false, false, false, false, false] (by kernel_rfl) rfl rfl ⟨((HB.out.cell (World.block_lt_of_cell? w _ hw534_0)).trans hw534_0), ((HB.out.cell (World.block_lt_of_cell? w _ hw534_1)).trans hw534_1), ((HB.out.cell (World.block_lt_of_cell? w _ hw534_2)).trans hw534_2), ((HB.out.cell (World.block_lt_of_cell? w _ hw534_3)).trans hw534_3), ((HB.out.cell (World.block_lt_of_cell? w _ hw534_4)).trans hw534_4), ((HB.out.cell (World.block_lt_of_cell? w _ hw534_5)).trans hw534_5), ((HB.out.cell (World.block_lt_of_cell? w _ hw534_6)).trans hw534_6), ((HB.out.cell (World.block_lt_of_cell? w _ hw534_7)).trans hw534_7), ((HB.out.cell (World.block_lt_of_cell? w _ hw535_0)).trans hw535_0), ((HB.out.cell (World.block_lt_of_cell? w _ hw535_1)).trans hw535_1), ((HB.out.cell (World.block_lt_of_cell? w _ hw535_2)).trans hw535_2), ((HB.out.cell (World.block_lt_of_cell? w _ hw535_3)).trans hw535_3), ((HB.out.cell (World.block_lt_of_cell? w _ hw535_4)).trans hw535_4), ((HB.out.cell (World.block_lt_of_cell? w _ hw535_5)).trans hw535_5), ((HB.out.cell (World.block_lt_of_cell? w _ hw535_6)).trans hw535_6), ((HB.out.cell (World.block_lt_of_cell? w _ hw535_7)).trans hw535_7)⟩ (fun hHeld => ?_); refine with_tabW endonymref6_Same.tab6 endonymref6_Same.bits6 (fun HT_ HW_ => ?_)
    generalize wr.drew = w9 at HB HR534_4 HR535_4 hx534_0 hx534_1 hx534_2 hx534_3 hx534_4 hx534_5 hx534_6 hx534_7 hx535_0 hx535_1 hx535_2 hx535_3 hx535_4 hx535_5 hx535_6 hx535_7 hHeld ⊢
    refine pure_ (i := 0) (N := some 17) (v := ?_) (a' := ?_) #[true, false, false, false, false, false, false, false, false, false] rfl rfl (any_of HT_.out (by kernel_rfl)) (fun _ _ _ h => h) (Or.inl ⟨by rfl, ?_⟩) ?_ ?_
    rotate_left
    ·intro w'
     go_simp
     with_reducible rfl
    rotate_left
    ·simp only [Act.put, List.setIfInBounds_toArray, List.set_cons_zero, List.set_cons_succ, i64_w, i32_w]
     rfl
    refine pure_ (i := 1) (N := some 18) (v := ?_) (a' := ?_) #[true, true, false, false, false, false, false, false, false, false] rfl rfl (any_of HT_.out (by kernel_rfl)) (fun _ _ _ h => h) (Or.inl ⟨by rfl, ?_⟩) ?_ ?_
    rotate_left
    ·intro w'
     go_simp
     with_reducible rfl
    rotate_left
    ·simp only [Act.put, List.setIfInBounds_toArray, List.set_cons_zero, List.set_cons_succ, i64_w, i32_w]
     rfl
    refine pure_ (i := 2) (N := some 19) (v := ?_) (a' := ?_) #[true, true, true, false, false, false, false, false, false, false] rfl rfl (any_of HT_.out (by kernel_rfl)) (fun _ _ _ h => h) (Or.inl ⟨by rfl, ?_⟩) ?_ ?_
    rotate_left
    ·intro w'
     go_simp
     with_reducible rfl
    rotate_left
    ·simp only [Act.put, List.setIfInBounds_toArray, List.set_cons_zero, List.set_cons_succ, i64_w, i32_w]
     rfl
    refine pure_ (i := 4) (N := some 21) (v := ?_) (a' := ?_) #[true, true, true, false, true, false, false, false, false, false] rfl rfl (any_of HT_.out (by kernel_rfl)) (fun _ _ _ h => h) (Or.inl ⟨by rfl, ?_⟩) ?_ ?_
    rotate_left
    ·intro w'
     go_simp
     with_reducible rfl
    rotate_left
    ·simp only [Act.put, List.setIfInBounds_toArray, List.set_cons_zero, List.set_cons_succ, i64_w, i32_w]
     rfl
    refine pure_ (i := 5) (N := some 22) (v := ?_) (a' := ?_) #[true, true, true, false, true, true, false, false, false, false] rfl rfl (any_of HT_.out (by kernel_rfl)) (fun _ _ _ h => h) (Or.inl ⟨by rfl, ?_⟩) ?_ ?_
    rotate_left
    ·intro w'
     go_simp
     with_reducible rfl
    rotate_left
    ·simp only [Act.put, List.setIfInBounds_toArray, List.set_cons_zero, List.set_cons_succ, i64_w, i32_w]
     rfl
    refine pure_ (i := 6) (N := some 23) (v := ?_) (a' := ?_) #[true, true, true, false, true, true, true, false, false, false] rfl rfl (any_of HT_.out (by kernel_rfl)) (fun _ _ _ h => h) (Or.inl ⟨by rfl, ?_⟩) ?_ ?_
    rotate_left
    ·intro w'
     go_simp
     with_reducible rfl
    rotate_left
    ·simp only [Act.put, List.setIfInBounds_toArray, List.set_cons_zero, List.set_cons_succ, i64_w, i32_w]
     rfl
    refine take_ (i := 3) (N := some 20) (v := ?_) (a' := ?_) #[true, true, true, true, true, true, true, false, false, false] rfl rfl (take_ofW HT_.out HW_.out (by kernel_rfl)) (fun _ _ _ h => h) (Or.inl ⟨by rfl, ?_⟩) hHeld ?_ ?_
    rotate_left
    ·rintro w' ⟨s0, s1, s2, s3, s4, s5, s6, s7, s8, s9, s10, s11, s12, s13, s14, s15⟩
     go_simp
     with_reducible rfl
    rotate_left
    ·simp only [Act.put, List.setIfInBounds_toArray, List.set_cons_zero, List.set_cons_succ, i64_w, i32_w]
     rfl
    refine take_ (i := 7) (N := some 24) (v := ?_) (a' := ?_) #[true, true, true, true, true, true, true, true, false, false] rfl rfl (take_ofW HT_.out HW_.out (by kernel_rfl)) (fun _ _ _ h => h) (Or.inl ⟨by rfl, ?_⟩) hHeld ?_ ?_
    rotate_left
    ·rintro w' ⟨s0, s1, s2, s3, s4, s5, s6, s7, s8, s9, s10, s11, s12, s13, s14, s15⟩
     go_simp
     with_reducible rfl
    rotate_left
    ·simp only [Act.put, List.setIfInBounds_toArray, List.set_cons_zero, List.set_cons_succ, i64_w, i32_w]
     rfl
    refine one_ (i := 8) (N := some 25) #[true, true, true, true, true, true, true, true, true, false] rfl rfl (one_of HT_.out (by kernel_rfl)) (by decide) (fun K hK => ?_)
    refine goes_ Tryz.func66 (by kernel_rfl) rfl #[.agg #[.int .i64 ((rd_T25 l0 x5_1).f0), .int .i64 ((rd_T25 l0 x5_1).f1), .int .i64 ((rd_T25 l0 x5_1).f2), .int .i64 ((rd_T25 l0 x5_1).f3), .slice A534_4 ((rd_T25 l0 x5_1).f4).length c534_4, .string ((rd_T25 l0 x5_1).f5), .string ((rd_T25 l0 x5_1).f6), .float .f64 ((rd_T25 l0 x5_1).f7)], .agg #[.int .i64 ((rd_T25 l1 x5_1).f0), .int .i64 ((rd_T25 l1 x5_1).f1), .int .i64 ((rd_T25 l1 x5_1).f2), .int .i64 ((rd_T25 l1 x5_1).f3), .slice A535_4 ((rd_T25 l1 x5_1).f4).length c535_4, .string ((rd_T25 l1 x5_1).f5), .string ((rd_T25 l1 x5_1).f6), .float .f64 ((rd_T25 l1 x5_1).f7)]] (by rfl) rfl rfl sqA ?_
    with_reducible refine (endonymref6_SameRecord.calls k1 ((rd_T25 l0 x5_1).f0) ((rd_T25 l0 x5_1).f1) ((rd_T25 l0 x5_1).f2) ((rd_T25 l0 x5_1).f3) _ _ ((rd_T25 l0 x5_1).f4) ((rd_T25 l0 x5_1).f5) ((rd_T25 l0 x5_1).f6) ((rd_T25 l0 x5_1).f7) ((rd_T25 l1 x5_1).f0) ((rd_T25 l1 x5_1).f1) ((rd_T25 l1 x5_1).f2) ((rd_T25 l1 x5_1).f3) _ _ ((rd_T25 l1 x5_1).f4) ((rd_T25 l1 x5_1).f5) ((rd_T25 l1 x5_1).f6) ((rd_T25 l1 x5_1).f7) true _ ?side1 ?side2 ?side3 ?side4 A7.out).mono ?_
    (case side1 => repeat (first | exact (Kd.C_below HR534_4.out HB.out) | (with_reducible refine Kd.C_alloc ?_ _) | (with_reducible refine Kd.C_drewN ?_ _) | (with_reducible refine Kd.C_drew ?_)))
    (case side2 => exact HC534_4.out)
    (case side3 => repeat (first | exact (Kd.C_below HR535_4.out HB.out) | (with_reducible refine Kd.C_alloc ?_ _) | (with_reducible refine Kd.C_drewN ?_ _) | (with_reducible refine Kd.C_drew ?_)))
    (case side4 => exact HC535_4.out)
    rintro e w10 ⟨rfl, hb⟩
    refine ⟨_, rfl, ?_⟩
    have n0_ := Aside0.mk (below_step sqB hb)
    clear HB
    have HB := n0_
    clear n0_
    (try clear hb)
    (try clear hb2)
    (try clear hk)
    (try clear hi)
    refine hK.out _ _ ⟨((HB.out.cell (World.block_lt_of_cell? w _ hw534_0)).trans hw534_0), ((HB.out.cell (World.block_lt_of_cell? w _ hw534_1)).trans hw534_1), ((HB.out.cell (World.block_lt_of_cell? w _ hw534_2)).trans hw534_2), ((HB.out.cell (World.block_lt_of_cell? w _ hw534_3)).trans hw534_3), ((HB.out.cell (World.block_lt_of_cell? w _ hw534_4)).trans hw534_4), ((HB.out.cell (World.block_lt_of_cell? w _ hw534_5)).trans hw534_5), ((HB.out.cell (World.block_lt_of_cell? w _ hw534_6)).trans hw534_6), ((HB.out.cell (World.block_lt_of_cell? w _ hw534_7)).trans hw534_7), ((HB.out.cell (World.block_lt_of_cell? w _ hw535_0)).trans hw535_0), ((HB.out.cell (World.block_lt_of_cell? w _ hw535_1)).trans hw535_1), ((HB.out.cell (World.block_lt_of_cell? w _ hw535_2)).trans hw535_2), ((HB.out.cell (World.block_lt_of_cell? w _ hw535_3)).trans hw535_3), ((HB.out.cell (World.block_lt_of_cell? w _ hw535_4)).trans hw535_4), ((HB.out.cell (World.block_lt_of_cell? w _ hw535_5)).trans hw535_5), ((HB.out.cell (World.block_lt_of_cell? w _ hw535_6)).trans hw535_6), ((HB.out.cell (World.block_lt_of_cell? w _ hw535_7)).trans hw535_7)⟩ (fun hHeld => ?_)
    clear hK K
    refine norm_ (a' := ?_) ?_ ?_
    rotate_left
    ·show Act.put _ (some 25) _ = _
     simp only [Act.put, List.setIfInBounds_toArray, List.set_cons_zero, List.set_cons_succ, i64_w, i32_w]
     rfl
    refine pure_ (i := 9) (N := some 26) (v := ?_) (a' := ?_) #[true, true, true, true, true, true, true, true, true, true] rfl rfl (any_of HT_.out (by kernel_rfl)) (fun _ _ _ h => h) (Or.inl ⟨by rfl, ?_⟩) ?_ ?_
    rotate_left
    ·intro w'
     go_simp
     with_reducible rfl
    rotate_left
    ·simp only [Act.put, List.setIfInBounds_toArray, List.set_cons_zero, List.set_cons_succ, i64_w, i32_w]
     rfl
    refine done_ (done_of HT_.out (by kernel_rfl)) ?_
    try go_wp2
    go_roundg k1
    case measure => have := HK1.out; omega
    case rel => exact ⟨(wrap64 (x5_1 + 1)), sqE, H', ⟨by have := HK1.out; omega⟩, ⟨sqB⟩⟩
   replace c8 := Bool.eq_false_iff.mpr c8
   subst c8
   have H1 : (some false) = some r := by rw [if_neg (show ¬ (false = true) by decide)] at H; exact H
   clear H
   have H := H1
   clear H1
   obtain rfl := Option.some.inj H
   try go_wp2
   have n0_ := Aside0.mk (below_drew1 HB.out)
   clear HB
   have HB := n0_
   clear n0_
   have p534 : 0 ≤ (x5_1 : Int) := sqD
   have q534 : x5_1 < (l0.length : Int) := sqD
   obtain ⟨ad534, A534_4, c534_4, e534, hx534_0, hx534_1, hx534_2, hx534_3, hx534_4, hx534_5, hx534_6, hx534_7, hl534_4, hi534_4⟩ := at_T25 HR0.out x5_1 p534 q534
   have hw534_7 := hx534_7
   have hw534_6 := hx534_6
   have hw534_5 := hx534_5
   have hw534_4 := hx534_4
   have hw534_3 := hx534_3
   have hw534_2 := hx534_2
   have hw534_1 := hx534_1
   have hw534_0 := hx534_0
   cases e534
   replace hx534_0 := (HB.out.cell (World.block_lt_of_cell? w _ hx534_0)).trans hx534_0
   replace hx534_1 := (HB.out.cell (World.block_lt_of_cell? w _ hx534_1)).trans hx534_1
   replace hx534_2 := (HB.out.cell (World.block_lt_of_cell? w _ hx534_2)).trans hx534_2
   replace hx534_3 := (HB.out.cell (World.block_lt_of_cell? w _ hx534_3)).trans hx534_3
   replace hx534_4 := (HB.out.cell (World.block_lt_of_cell? w _ hx534_4)).trans hx534_4
   replace hx534_5 := (HB.out.cell (World.block_lt_of_cell? w _ hx534_5)).trans hx534_5
   replace hx534_6 := (HB.out.cell (World.block_lt_of_cell? w _ hx534_6)).trans hx534_6
   replace hx534_7 := (HB.out.cell (World.block_lt_of_cell? w _ hx534_7)).trans hx534_7
   have HR534_4 := Aside0.mk hi534_4
   have HC534_4 := Aside0.mk hl534_4
   clear hi534_4 hl534_4
   replace p534 := eq_true p534
   replace q534 := eq_true q534
   have p535 : 0 ≤ (x5_1 : Int) := sqD
   have q535 : x5_1 < (l1.length : Int) := sqD
   obtain ⟨ad535, A535_4, c535_4, e535, hx535_0, hx535_1, hx535_2, hx535_3, hx535_4, hx535_5, hx535_6, hx535_7, hl535_4, hi535_4⟩ := at_T25 HR1.out x5_1 p535 q535
   have hw535_7 := hx535_7
   have hw535_6 := hx535_6
   have hw535_5 := hx535_5
   have hw535_4 := hx535_4
   have hw535_3 := hx535_3
   have hw535_2 := hx535_2
   have hw535_1 := hx535_1
   have hw535_0 := hx535_0
   cases e535
   replace hx535_0 := (HB.out.cell (World.block_lt_of_cell? w _ hx535_0)).trans hx535_0
   replace hx535_1 := (HB.out.cell (World.block_lt_of_cell? w _ hx535_1)).trans hx535_1
   replace hx535_2 := (HB.out.cell (World.block_lt_of_cell? w _ hx535_2)).trans hx535_2
   replace hx535_3 := (HB.out.cell (World.block_lt_of_cell? w _ hx535_3)).trans hx535_3
   replace hx535_4 := (HB.out.cell (World.block_lt_of_cell? w _ hx535_4)).trans hx535_4
   replace hx535_5 := (HB.out.cell (World.block_lt_of_cell? w _ hx535_5)).trans hx535_5
   replace hx535_6 := (HB.out.cell (World.block_lt_of_cell? w _ hx535_6)).trans hx535_6
   replace hx535_7 := (HB.out.cell (World.block_lt_of_cell? w _ hx535_7)).trans hx535_7
   have HR535_4 := Aside0.mk hi535_4
   have HC535_4 := Aside0.mk hl535_4
   clear hi535_4 hl535_4
   replace p535 := eq_true p535
   replace q535 := eq_true q535
   refine start_ (n := 10) (S := fun w' => w'.cell? (ad534.add ((x5_1).toNat * 8)) = some (.int .i64 ((rd_T25 l0 x5_1).f0)) ∧ w'.cell? ⟨(ad534.add ((x5_1).toNat * 8)).block, (ad534.add ((x5_1).toNat * 8)).off + 1, none⟩ = some (.int .i64 ((rd_T25 l0 x5_1).f1)) ∧ w'.cell? ⟨(ad534.add ((x5_1).toNat * 8)).block, (ad534.add ((x5_1).toNat * 8)).off + 2, none⟩ = some (.int .i64 ((rd_T25 l0 x5_1).f2)) ∧ w'.cell? ⟨(ad534.add ((x5_1).toNat * 8)).block, (ad534.add ((x5_1).toNat * 8)).off + 3, none⟩ = some (.int .i64 ((rd_T25 l0 x5_1).f3)) ∧ w'.cell? ⟨(ad534.add ((x5_1).toNat * 8)).block, (ad534.add ((x5_1).toNat * 8)).off + 4, none⟩ = some (.slice A534_4 ((rd_T25 l0 x5_1).f4).length c534_4) ∧ w'.cell? ⟨(ad534.add ((x5_1).toNat * 8)).block, (ad534.add ((x5_1).toNat * 8)).off + 5, none⟩ = some (.string ((rd_T25 l0 x5_1).f5)) ∧ w'.cell? ⟨(ad534.add ((x5_1).toNat * 8)).block, (ad534.add ((x5_1).toNat * 8)).off + 6, none⟩ = some (.string ((rd_T25 l0 x5_1).f6)) ∧ w'.cell? ⟨(ad534.add ((x5_1).toNat * 8)).block, (ad534.add ((x5_1).toNat * 8)).off + 7, none⟩ = some (.float .f64 ((rd_T25 l0 x5_1).f7)) ∧ w'.cell? (ad535.add ((x5_1).toNat * 8)) = some (.int .i64 ((rd_T25 l1 x5_1).f0)) ∧ w'.cell? ⟨(ad535.add ((x5_1).toNat * 8)).block, (ad535.add ((x5_1).toNat * 8)).off + 1, none⟩ = some (.int .i64 ((rd_T25 l1 x5_1).f1)) ∧ w'.cell? ⟨(ad535.add ((x5_1).toNat * 8)).block, (ad535.add ((x5_1).toNat * 8)).off + 2, none⟩ = some (.int .i64 ((rd_T25 l1 x5_1).f2)) ∧ w'.cell? ⟨(ad535.add ((x5_1).toNat * 8)).block, (ad535.add ((x5_1).toNat * 8)).off + 3, none⟩ = some (.int .i64 ((rd_T25 l1 x5_1).f3)) ∧ w'.cell? ⟨(ad535.add ((x5_1).toNat * 8)).block, (ad535.add ((x5_1).toNat * 8)).off + 4, none⟩ = some (.slice A535_4 ((rd_T25 l1 x5_1).f4).length c535_4) ∧ w'.cell? ⟨(ad535.add ((x5_1).toNat * 8)).block, (ad535.add ((x5_1).toNat * 8)).off + 5, none⟩ = some (.string ((rd_T25 l1 x5_1).f5)) ∧ w'.cell? ⟨(ad535.add ((x5_1).toNat * 8)).block, (ad535.add ((x5_1).toNat * 8)).off + 6, none⟩ = some (.string ((rd_T25 l1 x5_1).f6)) ∧ w'.cell? ⟨(ad535.add ((x5_1).toNat * 8)).block, (ad535.add ((x5_1).toNat * 8)).off + 7, none⟩ = some (.float .f64 ((rd_T25 l1 x5_1).f7))) (ds := []) #[false, false, false, false, false, false, false, false, false, false] (by kernel_rfl) rfl rfl ⟨((HB.out.cell (World.block_lt_of_cell? w _ hw534_0)).trans hw534_0), ((HB.out.cell (World.block_lt_of_cell? w _ hw534_1)).trans hw534_1), ((HB.out.cell (World.block_lt_of_cell? w _ hw534_2)).trans hw534_2), ((HB.out.cell (World.block_lt_of_cell? w _ hw534_3)).trans hw534_3), ((HB.out.cell (World.block_lt_of_cell? w _ hw534_4)).trans hw534_4), ((HB.out.cell (World.block_lt_of_cell? w _ hw534_5)).trans hw534_5), ((HB.out.cell (World.block_lt_of_cell? w _ hw534_6)).trans hw534_6), ((HB.out.cell (World.block_lt_of_cell? w _ hw534_7)).trans hw534_7), ((HB.out.cell (World.block_lt_of_cell? w _ hw535_0)).trans hw535_0), ((HB.out.cell (World.block_lt_of_cell? w _ hw535_1)).trans hw535_1), ((HB.out.cell (World.block_lt_of_cell? w _ hw535_2)).trans hw535_2), ((HB.out.cell (World.block_lt_of_cell? w _ hw535_3)).trans hw535_3), ((HB.out.cell (World.block_lt_of_cell? w _ hw535_4)).trans hw535_4), ((HB.out.cell (World.block_lt_of_cell? w _ hw535_5)).trans hw535_5), ((HB.out.cell (World.block_lt_of_cell? w _ hw535_6)).trans hw535_6), ((HB.out.cell (World.block_lt_of_cell? w _ hw535_7)).trans hw535_7)⟩ (fun hHeld => ?_); refine with_tabW endonymref6_Same.tab6 endonymref6_Same.bits6 (fun HT_ HW_ => ?_)
   generalize wr.drew = w11 at HB HR534_4 HR535_4 hx534_0 hx534_1 hx534_2 hx534_3 hx534_4 hx534_5 hx534_6 hx534_7 hx535_0 hx535_1 hx535_2 hx535_3 hx535_4 hx535_5 hx535_6 hx535_7 hHeld ⊢
   refine pure_ (i := 0) (N := some 17) (v := ?_) (a' := ?_) #[true, false, false, false, false, false, false, false, false, false] rfl rfl (any_of HT_.out (by kernel_rfl)) (fun _ _ _ h => h) (Or.inl ⟨by rfl, ?_⟩) ?_ ?_
   rotate_left
   ·intro w'
    go_simp
    with_reducible rfl
   rotate_left
   ·simp only [Act.put, List.setIfInBounds_toArray, List.set_cons_zero, List.set_cons_succ, i64_w, i32_w]
    rfl
   refine pure_ (i := 1) (N := some 18) (v := ?_) (a' := ?_) #[true, true, false, false, false, false, false, false, false, false] rfl rfl (any_of HT_.out (by kernel_rfl)) (fun _ _ _ h => h) (Or.inl ⟨by rfl, ?_⟩) ?_ ?_
   rotate_left
   ·intro w'
    go_simp
    with_reducible rfl
   rotate_left
   ·simp only [Act.put, List.setIfInBounds_toArray, List.set_cons_zero, List.set_cons_succ, i64_w, i32_w]
    rfl
   refine pure_ (i := 2) (N := some 19) (v := ?_) (a' := ?_) #[true, true, true, false, false, false, false, false, false, false] rfl rfl (any_of HT_.out (by kernel_rfl)) (fun _ _ _ h => h) (Or.inl ⟨by rfl, ?_⟩) ?_ ?_
   rotate_left
   ·intro w'
    go_simp
    with_reducible rfl
   rotate_left
   ·simp only [Act.put, List.setIfInBounds_toArray, List.set_cons_zero, List.set_cons_succ, i64_w, i32_w]
    rfl
   refine pure_ (i := 4) (N := some 21) (v := ?_) (a' := ?_) #[true, true, true, false, true, false, false, false, false, false] rfl rfl (any_of HT_.out (by kernel_rfl)) (fun _ _ _ h => h) (Or.inl ⟨by rfl, ?_⟩) ?_ ?_
   rotate_left
   ·intro w'
    go_simp
    with_reducible rfl
   rotate_left
   ·simp only [Act.put, List.setIfInBounds_toArray, List.set_cons_zero, List.set_cons_succ, i64_w, i32_w]
    rfl
   refine pure_ (i := 5) (N := some 22) (v := ?_) (a' := ?_) #[true, true, true, false, true, true, false, false, false, false] rfl rfl (any_of HT_.out (by kernel_rfl)) (fun _ _ _ h => h) (Or.inl ⟨by rfl, ?_⟩) ?_ ?_
   rotate_left
   ·intro w'
    go_simp
    with_reducible rfl
   rotate_left
   ·simp only [Act.put, List.setIfInBounds_toArray, List.set_cons_zero, List.set_cons_succ, i64_w, i32_w]
    rfl
   refine pure_ (i := 6) (N := some 23) (v := ?_) (a' := ?_) #[true, true, true, false, true, true, true, false, false, false] rfl rfl (any_of HT_.out (by kernel_rfl)) (fun _ _ _ h => h) (Or.inl ⟨by rfl, ?_⟩) ?_ ?_
   rotate_left
   ·intro w'
    go_simp
    with_reducible rfl
   rotate_left
   ·simp only [Act.put, List.setIfInBounds_toArray, List.set_cons_zero, List.set_cons_succ, i64_w, i32_w]
    rfl
   refine take_ (i := 3) (N := some 20) (v := ?_) (a' := ?_) #[true, true, true, true, true, true, true, false, false, false] rfl rfl (take_ofW HT_.out HW_.out (by kernel_rfl)) (fun _ _ _ h => h) (Or.inl ⟨by rfl, ?_⟩) hHeld ?_ ?_
   rotate_left
   ·rintro w' ⟨s0, s1, s2, s3, s4, s5, s6, s7, s8, s9, s10, s11, s12, s13, s14, s15⟩
    go_simp
    with_reducible rfl
   rotate_left
   ·simp only [Act.put, List.setIfInBounds_toArray, List.set_cons_zero, List.set_cons_succ, i64_w, i32_w]
    rfl
   refine take_ (i := 7) (N := some 24) (v := ?_) (a' := ?_) #[true, true, true, true, true, true, true, true, false, false] rfl rfl (take_ofW HT_.out HW_.out (by kernel_rfl)) (fun _ _ _ h => h) (Or.inl ⟨by rfl, ?_⟩) hHeld ?_ ?_
   rotate_left
   ·rintro w' ⟨s0, s1, s2, s3, s4, s5, s6, s7, s8, s9, s10, s11, s12, s13, s14, s15⟩
    go_simp
    with_reducible rfl
   rotate_left
   ·simp only [Act.put, List.setIfInBounds_toArray, List.set_cons_zero, List.set_cons_succ, i64_w, i32_w]
    rfl
   refine one_ (i := 8) (N := some 25) #[true, true, true, true, true, true, true, true, true, false] rfl rfl (one_of HT_.out (by kernel_rfl)) (by decide) (fun K hK => ?_)
   refine goes_ Tryz.func66 (by kernel_rfl) rfl #[.agg #[.int .i64 ((rd_T25 l0 x5_1).f0), .int .i64 ((rd_T25 l0 x5_1).f1), .int .i64 ((rd_T25 l0 x5_1).f2), .int .i64 ((rd_T25 l0 x5_1).f3), .slice A534_4 ((rd_T25 l0 x5_1).f4).length c534_4, .string ((rd_T25 l0 x5_1).f5), .string ((rd_T25 l0 x5_1).f6), .float .f64 ((rd_T25 l0 x5_1).f7)], .agg #[.int .i64 ((rd_T25 l1 x5_1).f0), .int .i64 ((rd_T25 l1 x5_1).f1), .int .i64 ((rd_T25 l1 x5_1).f2), .int .i64 ((rd_T25 l1 x5_1).f3), .slice A535_4 ((rd_T25 l1 x5_1).f4).length c535_4, .string ((rd_T25 l1 x5_1).f5), .string ((rd_T25 l1 x5_1).f6), .float .f64 ((rd_T25 l1 x5_1).f7)]] (by rfl) rfl rfl sqA ?_
   with_reducible refine (endonymref6_SameRecord.calls k1 ((rd_T25 l0 x5_1).f0) ((rd_T25 l0 x5_1).f1) ((rd_T25 l0 x5_1).f2) ((rd_T25 l0 x5_1).f3) _ _ ((rd_T25 l0 x5_1).f4) ((rd_T25 l0 x5_1).f5) ((rd_T25 l0 x5_1).f6) ((rd_T25 l0 x5_1).f7) ((rd_T25 l1 x5_1).f0) ((rd_T25 l1 x5_1).f1) ((rd_T25 l1 x5_1).f2) ((rd_T25 l1 x5_1).f3) _ _ ((rd_T25 l1 x5_1).f4) ((rd_T25 l1 x5_1).f5) ((rd_T25 l1 x5_1).f6) ((rd_T25 l1 x5_1).f7) false _ ?side1 ?side2 ?side3 ?side4 A7.out).mono ?_
   (case side1 => repeat (first | exact (Kd.C_below HR534_4.out HB.out) | (with_reducible refine Kd.C_alloc ?_ _) | (with_reducible refine Kd.C_drewN ?_ _) | (with_reducible refine Kd.C_drew ?_)))
   (case side2 => exact HC534_4.out)
   (case side3 => repeat (first | exact (Kd.C_below HR535_4.out HB.out) | (with_reducible refine Kd.C_alloc ?_ _) | (with_reducible refine Kd.C_drewN ?_ _) | (with_reducible refine Kd.C_drew ?_)))
   (case side4 => exact HC535_4.out)
   rintro e w12 ⟨rfl, hb⟩
   refine ⟨_, rfl, ?_⟩
   have n0_ := Aside0.mk (below_step sqB hb)
   clear HB
   have HB := n0_
   clear n0_
   (try clear hb)
   (try clear hb2)
   (try clear hk)
   (try clear hi)
   refine hK.out _ _ ⟨((HB.out.cell (World.block_lt_of_cell? w _ hw534_0)).trans hw534_0), ((HB.out.cell (World.block_lt_of_cell? w _ hw534_1)).trans hw534_1), ((HB.out.cell (World.block_lt_of_cell? w _ hw534_2)).trans hw534_2), ((HB.out.cell (World.block_lt_of_cell? w _ hw534_3)).trans hw534_3), ((HB.out.cell (World.block_lt_of_cell? w _ hw534_4)).trans hw534_4), ((HB.out.cell (World.block_lt_of_cell? w _ hw534_5)).trans hw534_5), ((HB.out.cell (World.block_lt_of_cell? w _ hw534_6)).trans hw534_6), ((HB.out.cell (World.block_lt_of_cell? w _ hw534_7)).trans hw534_7), ((HB.out.cell (World.block_lt_of_cell? w _ hw535_0)).trans hw535_0), ((HB.out.cell (World.block_lt_of_cell? w _ hw535_1)).trans hw535_1), ((HB.out.cell (World.block_lt_of_cell? w _ hw535_2)).trans hw535_2), ((HB.out.cell (World.block_lt_of_cell? w _ hw535_3)).trans hw535_3), ((HB.out.cell (World.block_lt_of_cell? w _ hw535_4)).trans hw535_4), ((HB.out.cell (World.block_lt_of_cell? w _ hw535_5)).trans hw535_5), ((HB.out.cell (World.block_lt_of_cell? w _ hw535_6)).trans hw535_6), ((HB.out.cell (World.block_lt_of_cell? w _ hw535_7)).trans hw535_7)⟩ (fun hHeld => ?_)
   clear hK K
   refine norm_ (a' := ?_) ?_ ?_
   rotate_left
   ·show Act.put _ (some 25) _ = _
    simp only [Act.put, List.setIfInBounds_toArray, List.set_cons_zero, List.set_cons_succ, i64_w, i32_w]
    rfl
   refine pure_ (i := 9) (N := some 26) (v := ?_) (a' := ?_) #[true, true, true, true, true, true, true, true, true, true] rfl rfl (any_of HT_.out (by kernel_rfl)) (fun _ _ _ h => h) (Or.inl ⟨by rfl, ?_⟩) ?_ ?_
   rotate_left
   ·intro w'
    go_simp
    with_reducible rfl
   rotate_left
   ·simp only [Act.put, List.setIfInBounds_toArray, List.set_cons_zero, List.set_cons_succ, i64_w, i32_w]
    rfl
   refine done_ (done_of HT_.out (by kernel_rfl)) ?_
   try go_wp2
   go_ret
   exact ⟨sqE', sqB⟩
open Classical in
noncomputable def endonymlaw6_whole.f (k : Nat) (l0 : List (S25)) (l1 : List (S25)) : Option (Bool) := if l0 = l1.take l0.length ∧ l0.length ≤ l1.length ∧ endonymref6_Same.f k l0 l0 = some true ∧ (∀ x ∈ l0, x.f4.length < 1000000000000) ∧ l0.length ≤ 1000 then some true else none
theorem endonymlaw6_whole.mono : ∀ a0 a1 k, LeO (endonymlaw6_whole.f k a0 a1) (endonymlaw6_whole.f (k + 1) a0 a1) := by
 intro a0 a1 k r h
 unfold endonymlaw6_whole.f at h ⊢
 split at h
 ·
  rename_i hc
  rw [if_pos ⟨hc.1, hc.2.1, endonymref6_Same.mono _ _ _ _ hc.2.2.1, hc.2.2.2⟩]; exact h
 ·
  cases h
theorem up_26 (A : Option Addr) (n m c : Nat) (h : m ≤ c) (hn : n ≤ c) : ∀ W : World, (Instr.slice 26 (.slice A n c) none (some (.int .i64 (m : Int))) none).run Tryz.prog W = .ok (.slice A m c) W := by
 intro W
 obtain ⟨i0, hi, _, hsz, _⟩ := info_parts info25
 have hel : Tryz.prog.elem 26 = 25 := by simp [Program.elem, Tryz.underlying26]
 have hu : Tryz.prog.underlying 26 = some (.slice (Tryz.prog.elem 26)) := by rw [hel]; exact Tryz.underlying26
 rw [run_slice_h W 26 A n c hu .i64 _ (by omega) (by omega), hel, Int.toNat_natCast]
 simp [sizeOf, typeInfo, hi, hsz, sliced, Result.andThen, Addr.add]
theorem up_22 (A : Option Addr) (n m c : Nat) (h : m ≤ c) (hn : n ≤ c) : ∀ W : World, (Instr.slice 22 (.slice A n c) none (some (.int .i64 (m : Int))) none).run Tryz.prog W = .ok (.slice A m c) W := by
 intro W
 obtain ⟨i0, hi, _, hsz, _⟩ := info_parts info21
 have hel : Tryz.prog.elem 22 = 21 := by simp [Program.elem, Tryz.underlying22]
 have hu : Tryz.prog.underlying 22 = some (.slice (Tryz.prog.elem 22)) := by rw [hel]; exact Tryz.underlying22
 rw [run_slice_h W 22 A n c hu .i64 _ (by omega) (by omega), hel, Int.toNat_natCast]
 simp [sizeOf, typeInfo, hi, hsz, sliced, Result.andThen, Addr.add]
theorem endonymlaw6_whole.calls (k : Nat) (A0 : Option Addr) (c0 : Nat) (l0 : List (S25)) (A1 : Option Addr) (c1 : Nat) (l1 : List (S25)) (r : Bool) (w : World) (hr0 : Kd.C k25 w A0 l0.length l0) (hc0 : l0.length ≤ c0) (hr1 : Kd.C k25 w A1 l1.length l1) (hc1 : l1.length ≤ c1) (hfew : FewRoom w (.slice A0 l0.length c0) l0) (h : endonymlaw6_whole.f k l0 l1 = some r) :
  Calls Tryz.prog 20 #[.slice A0 l0.length c0, .slice A1 l1.length c1] w fun e w' => e = .returned (.bool r) ∧ Below w.heap.size w w' := by
 unfold endonymlaw6_whole.f at h
 split at h
 case isFalse => cases h
 rename_i hc
 obtain ⟨e1, e2, e3, e4, e5⟩ := hc
 obtain rfl := Option.some.inj h
 obtain ⟨g, c, eg, hcap, h7, h8, hx⟩ := hfew
 obtain ⟨rfl, rfl⟩ : A0 = some ⟨g, 0, none⟩ ∧ c0 = c := by simpa using eg
 clear eg h
 have HR0 := Aside0.mk hr0
 have HC0 := Aside0.mk hc0
 have hr1' := Kd.C_take (m := l0.length) hr1 e2
 rw [← e1] at hr1'
 have HR1 := Aside0.mk hr1'
 have HC1 := Aside0.mk (show l0.length ≤ c1 by omega)
 have A3 := Aside0.mk e3
 have HB := Aside0.mk (Below.refl w.heap.size w)
 have hs0 := cut_26 A1 l1.length l0.length c1 e2 hc1
 have hs1 : ∀ W : World, (Instr.slice 26 (.slice (some ⟨g, 0, none⟩) l0.length c0) none (some (.int .i64 ((l0.length : Int) + 2))) none).run Tryz.prog W = .ok (.slice (some ⟨g, 0, none⟩) (l0.length + 2) c0) W := up_26 (some ⟨g, 0, none⟩) l0.length (l0.length + 2) c0 hcap hc0
 have H7 := Aside0.mk h7
 have H8 := Aside0.mk h8
 have HX := Aside0.mk hx
 have HS := Aside0.mk e4
 have HN := Aside0.mk e5
 have E2 := Aside0.mk e2
 clear hr0 hc0 hr1 hr1' hc1 h7 h8 hx e1 e2 e3 e4 e5 hcap
 have w2 : wrap64 ((l0.length : Int) + 2) = (l0.length : Int) + 2 := by unfold wrap64; have := HN.out; omega
 have w1 : wrap64 ((l0.length : Int) + 1) = (l0.length : Int) + 1 := by unfold wrap64; have := HN.out; omega
 go_enter Tryz.func20, Tryz.ntmps20
 go_wp2_with (first | ((with_reducible refine gate_callee (f := 26) rfl ?_); refine goesL_ (some 14) rfl rfl Tryz.func26 (by kernel_rfl) rfl #[.slice (some ⟨g, 0, none⟩) l0.length c0, .slice A1 l0.length c1] rfl sqA ?_; (with_reducible refine (endonymref6_Same.calls k _ _ l0 _ _ l0 true _ ?side1 ?side2 ?side3 ?side4 A3.out).mono ?_); (case side1 => repeat (first | exact HR0.out | (with_reducible refine Kd.C_alloc ?_ _) | (with_reducible refine Kd.C_drewN ?_ _) | (with_reducible refine Kd.C_drew ?_))); (case side2 => exact HC0.out); (case side3 => repeat (first | exact HR1.out | (with_reducible refine Kd.C_alloc ?_ _) | (with_reducible refine Kd.C_drewN ?_ _) | (with_reducible refine Kd.C_drew ?_))); (case side4 => exact HC1.out); rintro e w8 ⟨rfl, hb⟩; refine ⟨_, rfl, ?_⟩; have n1_ := Aside0.mk (below_step sqB hb); have h7 := (hb.cell (World.block_lt_of_cell? w _ H7.out)).trans H7.out; have h8 := (hb.cell (World.block_lt_of_cell? w _ H8.out)).trans H8.out; clear HB; have HB := n1_; clear n1_ hb))
 clear h7 h8 hs0 hs1 w1 w2
 go_loopg [6, 7] (l0.length + 1) (fun kq_ v6 v7 w' => ∃ (i : Nat), v6 = .int .i64 (i : Int) ∧ Aside0 (kq_ + i = l0.length + 1 ∧ i ≤ l0.length) ∧ Aside0 (Below w.heap.size w w'))
 case atStart => exact ⟨0, rfl, ⟨by omega, by omega⟩, ⟨sqB⟩⟩
 case round =>
  clear HB
  obtain ⟨i, rfl, HK, HB⟩ := hrel
  obtain ⟨hki, hin⟩ := HK.out
  by_cases hi : i < l0.length
  case neg =>
   have hd : decide ((i : Int) < (l0.length : Int)) = false := decide_eq_false (by omega)
   have hd2 : (i < l0.length) = False := eq_false (by omega)
   clear hki hin hi
   go_wp2
   go_ret
   exact ⟨rfl, sqB⟩
  case pos =>
   have hd : decide ((i : Int) < (l0.length : Int)) = true := decide_eq_true (by omega)
   have hd2 : (i < l0.length) = True := eq_true hi
   cases gk with
   | zero => omega
   | succ k1 =>
   obtain ⟨x, hxi⟩ : ∃ x, l0[i]? = some x := ⟨l0[i], List.getElem?_eq_getElem (by omega)⟩
   obtain ⟨A4, c4, h4, g4, c4', e4, ⟨hc4, hm4⟩, hcell⟩ := HX.out i x hxi
   obtain ⟨rfl, rfl⟩ : A4 = some ⟨g4, 0, none⟩ ∧ c4 = c4' := by simpa using e4
   have hx4 := (HB.out.cell (World.block_lt_of_cell? w _ h4)).trans h4
   have hx7 := (HB.out.cell (World.block_lt_of_cell? w _ (hcell 0 _ rfl))).trans (hcell 0 _ rfl)
   have hx8 := (HB.out.cell (World.block_lt_of_cell? w _ (hcell 1 _ rfl))).trans (hcell 1 _ rfl)
   rw [Nat.add_zero] at hx7
   have hsx := HS.out x (List.mem_of_getElem? hxi)
   have hs2 : ∀ W : World, (Instr.slice 22 (.slice (some ⟨g4, 0, none⟩) x.f4.length c4) none (some (.int .i64 ((x.f4.length : Int) + 2))) none).run Tryz.prog W = .ok (.slice (some ⟨g4, 0, none⟩) (x.f4.length + 2) c4) W := up_22 (some ⟨g4, 0, none⟩) x.f4.length (x.f4.length + 2) c4 (by simpa using hc4) (by simp at hc4; omega)
   have w2 : wrap64 ((x.f4.length : Int) + 2) = (x.f4.length : Int) + 2 := by unfold wrap64; omega
   have w1 : wrap64 ((x.f4.length : Int) + 1) = (x.f4.length : Int) + 1 := by unfold wrap64; omega
   have HI := Aside0.mk hi; have HKI := Aside0.mk hki
   clear hsx hc4 hm4 hcell e4 h4 hxi hki hin hi
   go_wp2
   go_roundg k1
   case measure => omega
   case rel => exact ⟨i + 1, by rw [show wrap64 ((i : Int) + 1) = ((i + 1 : Nat) : Int) from by unfold wrap64; have := HI.out; have := HN.out; omega], ⟨by have := HKI.out; omega, by have := HI.out; omega⟩, HB⟩
mutual
def table_Find.j0 : Nat → List (S25) → Int → Int → Bool → Option (Int)
 | 0, _, _, _, _ => none
 | k + 1, x0, x1, x2, x14 => if x14 = true then (some (-1)) else (table_Find.l0 k x1 x2 x0 (x0.length : Int) 0)
def table_Find.l0 : Nat → Int → Int → List (S25) → Int → Int → Option (Int)
 | 0, _, _, _, _, _ => none
 | k + 1, x1, x2, x15, x16, x17 => if x17 < x16 then (if 0 ≤ x17 then (if x17 < (x15.length : Int) then ((table_Family.f k ((rd_T25 x15 x17).f0)).bind fun t544 => (if t544 = x1 then ((table_speaks.f ((rd_T25 x15 x17).f0) ((rd_T25 x15 x17).f1) ((rd_T25 x15 x17).f2) ((rd_T25 x15 x17).f3) ((rd_T25 x15 x17).f4) ((rd_T25 x15 x17).f5) ((rd_T25 x15 x17).f6) ((rd_T25 x15 x17).f7) (wrap64 (x2))).bind fun t545 => (if t545 = true then (some x17) else (table_Find.l0 k x1 x2 x15 x16 (wrap64 (x17 + 1))))) else (table_Find.l0 k x1 x2 x15 x16 (wrap64 (x17 + 1))))) else (none)) else (none)) else (some (-1))
end
def table_Find.f (k : Nat) (l0 : List (S25)) (a1 : Int) (a2 : Int) : Option (Int) := if a1 < 1 then (table_Find.j0 k l0 a1 a2 true) else (table_Find.j0 k l0 a1 a2 (decide (a1 > 9)))
theorem table_Find.mono_l : ∀ k, (∀ y0 y1 y2 y3, LeO (table_Find.j0 k y0 y1 y2 y3) (table_Find.j0 (k + 1) y0 y1 y2 y3)) ∧ (∀ y0 y1 y2 y3 y4, LeO (table_Find.l0 k y0 y1 y2 y3 y4) (table_Find.l0 (k + 1) y0 y1 y2 y3 y4))
 | 0 => ⟨fun _ _ _ _ r h => by simp [table_Find.j0] at h, fun _ _ _ _ _ r h => by simp [table_Find.l0] at h⟩
 | k + 1 => by
  obtain ⟨ih0, ih1⟩ := table_Find.mono_l k
  refine ⟨?_, ?_⟩
  ·intro y0 y1 y2 y3
   unfold table_Find.j0
   repeat' first | (with_reducible first | apply ih0 | apply ih1 | apply table_Family.mono | apply LeO.refl | apply LeO.none | refine LeO.ite ?_ ?_ | refine LeO.bind ?_ (fun _ => ?_)) | apply LeO.none | refine LeO.ite ?_ ?_ | refine LeO.bind ?_ (fun _ => ?_)
  intro y0 y1 y2 y3 y4
  unfold table_Find.l0
  repeat' first | (with_reducible first | apply ih0 | apply ih1 | apply table_Family.mono | apply LeO.refl | apply LeO.none | refine LeO.ite ?_ ?_ | refine LeO.bind ?_ (fun _ => ?_)) | apply LeO.none | refine LeO.ite ?_ ?_ | refine LeO.bind ?_ (fun _ => ?_)
theorem table_Find.mono : ∀ a0 a1 a2 k, LeO (table_Find.f k a0 a1 a2) (table_Find.f (k + 1) a0 a1 a2) := by
 intro a0 a1 a2 k
 obtain ⟨ih0, ih1⟩ := table_Find.mono_l k
 unfold table_Find.f
 repeat' first | (with_reducible first | apply ih0 | apply ih1 | apply table_Family.mono | apply LeO.refl | apply LeO.none | refine LeO.ite ?_ ?_ | refine LeO.bind ?_ (fun _ => ?_)) | apply LeO.none | refine LeO.ite ?_ ?_ | refine LeO.bind ?_ (fun _ => ?_)
theorem table_Find.calls (k : Nat) (A0 : Option Addr) (c0 : Nat) (l0 : List (S25)) (a1 : Int) (a2 : Int) (r : Int) (w : World) (hr0 : Kd.C k25 w A0 l0.length l0) (hc0 : l0.length ≤ c0) (h : table_Find.f k l0 a1 a2 = some r) :
  Calls Tryz.prog 30 #[.slice A0 l0.length c0, .int .i64 a1, .int .i32 a2] w fun e w' => e = .returned (.int .i64 r) ∧ Below w.heap.size w w' := by
 have hu25 := Tryz.underlying25
 have HR0 := Aside0.mk hr0
 have HC0 := Aside0.mk hc0
 clear hr0 hc0
 have HB := Aside0.mk (Below.refl w.heap.size w)
 have H : (if a1 < 1 then (table_Find.j0 k l0 a1 a2 true) else (table_Find.j0 k l0 a1 a2 (decide (a1 > 9)))) = some r := h
 clear h
 have HC4 := Aside0.mk H
 clear H
 go_enter Tryz.func30, Tryz.ntmps30
 go_upto_region 1 with (fail)
 go_cut [14] (fun v14 wc => ∃ (kq : Nat) (x14_3 : Bool), v14 = .bool x14_3 ∧ Aside0 (table_Find.j0 kq l0 a1 a2 x14_3 = some r) ∧ Aside0 (kq ≤ k) ∧ Aside0 (Below w.heap.size w wc))
 case first =>
  have H := HC4.out
  clear HC4
  by_cases c5 : a1 < 1
  ·rw [if_pos c5] at H
   have c5b0 := decide_eq_true c5
   clear c5
   (first | rw [c5b0] | (simp only [i64_w, i32_w]; rw [c5b0]) | skip)
   have H' := Aside0.mk H
   clear H
   go_wp2
   go_meet
   case rel => exact ⟨_, (true), sqE, H', ⟨by first | omega | exact Nat.le_refl _⟩, ⟨sqB⟩⟩
  rw [if_neg c5] at H
  have c5b0 := decide_eq_false c5
  clear c5
  (first | rw [c5b0] | (simp only [i64_w, i32_w]; rw [c5b0]) | skip)
  have H' := Aside0.mk H
  clear H
  go_wp2
  go_meet
  case rel => exact ⟨_, (decide (a1 > 9)), sqE, H', ⟨by first | omega | exact Nat.le_refl _⟩, ⟨sqB⟩⟩
 case rest =>
  clear HC4
  try clear p2
  try clear c3
  try clear c5
  try clear c5b0
  obtain ⟨kq, x14_3, rfl, HA, HJ3, HB⟩ := hcut
  cases kq with
  | zero => exact absurd HA.out (by simp [table_Find.j0])
  | succ kj3 =>
   have H := HA.out
   clear HA
   simp only [table_Find.j0] at H
   by_cases c6 : x14_3 = true
   ·subst c6
    have H1 : (some (-1)) = some r := by rw [if_pos rfl] at H; exact H
    clear H
    have H := H1
    clear H1
    obtain rfl := Option.some.inj H
    go_wp2
    go_ret
    exact ⟨sqE', sqB⟩
   replace c6 := Bool.eq_false_iff.mpr c6
   subst c6
   have H1 : (table_Find.l0 kj3 a1 a2 l0 (l0.length : Int) 0) = some r := by rw [if_neg (show ¬ (false = true) by decide)] at H; exact H
   clear H
   have H := H1
   clear H1
   have H' := Aside0.mk H
   clear H
   go_wp2
   go_loopg [17] kj3 (fun kq v17 w' => ∃ (x17_2 : Int), v17 = .int .i64 x17_2 ∧ Aside0 (table_Find.l0 kq a1 a2 l0 (l0.length : Int) x17_2 = some r) ∧ Aside0 (kq ≤ kj3) ∧ Aside0 (Below w.heap.size w w'))
   case atStart => exact ⟨(0), sqE, H', ⟨Nat.le_refl _⟩, ⟨sqB⟩⟩
   case round =>
    clear H'
    try clear p2
    try clear c3
    try clear c5
    try clear c5b0
    try clear c6
    try clear p2
    obtain ⟨x17_2, rfl, HA, HK2, HB⟩ := hrel
    cases gk with
    | zero => exact absurd HA.out (by simp [table_Find.l0])
    | succ k2 =>
     have H := HA.out
     clear HA
     simp only [table_Find.l0] at H
     by_cases c7 : x17_2 < (l0.length : Int)
     case neg =>
      rw [if_neg c7] at H
      have c7b0 := decide_eq_false c7
      clear c7
      obtain rfl := Option.some.inj H
      go_wp2
      go_ret
      exact ⟨sqE', sqB⟩
     rw [if_pos c7] at H
     have c7b0 := decide_eq_true c7
     clear c7
     by_cases c8 : 0 ≤ x17_2
     case neg => rw [if_neg c8] at H; exact absurd H (by simp)
     rw [if_pos c8] at H
     have c8b0 := decide_eq_true c8
     clear c8
     by_cases c9 : x17_2 < (l0.length : Int)
     case neg => rw [if_neg c9] at H; exact absurd H (by simp)
     rw [if_pos c9] at H
     have c9b0 := decide_eq_true c9
     clear c9
     obtain ⟨t544, A10, H⟩ := sqO H
     try dsimp only at H
     by_cases c11 : t544 = a1
     case neg =>
      rw [if_neg c11] at H
      have c11b0 := beq_eq_false_iff_ne.mpr c11
      have c11b1 := bne_iff_ne.mpr c11
      have H' := Aside0.mk H
      clear H
      have p542 : 0 ≤ (x17_2 : Int) := sqD
      have q542 : x17_2 < (l0.length : Int) := sqD
      obtain ⟨ad542, A542_4, c542_4, e542, hx542_0, hx542_1, hx542_2, hx542_3, hx542_4, hx542_5, hx542_6, hx542_7, hl542_4, hi542_4⟩ := at_T25 HR0.out x17_2 p542 q542
      cases e542
      replace hx542_0 := (HB.out.cell (World.block_lt_of_cell? w _ hx542_0)).trans hx542_0
      replace hx542_1 := (HB.out.cell (World.block_lt_of_cell? w _ hx542_1)).trans hx542_1
      replace hx542_2 := (HB.out.cell (World.block_lt_of_cell? w _ hx542_2)).trans hx542_2
      replace hx542_3 := (HB.out.cell (World.block_lt_of_cell? w _ hx542_3)).trans hx542_3
      replace hx542_4 := (HB.out.cell (World.block_lt_of_cell? w _ hx542_4)).trans hx542_4
      replace hx542_5 := (HB.out.cell (World.block_lt_of_cell? w _ hx542_5)).trans hx542_5
      replace hx542_6 := (HB.out.cell (World.block_lt_of_cell? w _ hx542_6)).trans hx542_6
      replace hx542_7 := (HB.out.cell (World.block_lt_of_cell? w _ hx542_7)).trans hx542_7
      have HR542_4 := Aside0.mk hi542_4
      have HC542_4 := Aside0.mk hl542_4
      clear hi542_4 hl542_4
      replace p542 := eq_true p542
      replace q542 := eq_true q542
      go_wp2_with (first | ((with_reducible refine gate_dst (N := 8) rfl ?_); refine box_event ?hg (N := 8) ?hd (cs := #[.int .i64 0, .int .i64 0, .int .i64 0, .int .i64 0, .slice none 0 0, .string (⟨#[]⟩ : ByteArray), .string (⟨#[]⟩ : ByteArray), .float .f64 (0 : Nat)]) (t := 25) ?hr ?_; (case hd => rfl); (case hg => rfl); (case hr => first | (go_simp; done) | (go_simp; rfl)); intro gb543 hg w20 hbox hb; have n0_ := Aside0.mk (below_step sqB hb); have n1_ := Aside0.mk (hbox); have n2_ := Aside0.mk ((by rw [hg]; exact (below_size sqB) : w.heap.size ≤ gb543)); have n3_ := Aside0.mk ((by rw [hg]; exact (below_size sqB) : w.heap.size ≤ gb543)); clear HB; have HB := n0_; have BK543 := n1_; have GW543 := n2_; have GE543 := n3_; clear n0_ n1_ n2_ n3_; clear hb hbox hg; have hcz21_0 : w20.cell? ⟨gb543, 0, none⟩ = some (.int .i64 0) := (blk_cell BK543.out 0).trans rfl; have hcz21_1 : w20.cell? ⟨gb543, 1, none⟩ = some (.int .i64 0) := (blk_cell BK543.out 1).trans rfl; have hcz21_2 : w20.cell? ⟨gb543, 2, none⟩ = some (.int .i64 0) := (blk_cell BK543.out 2).trans rfl; have hcz21_3 : w20.cell? ⟨gb543, 3, none⟩ = some (.int .i64 0) := (blk_cell BK543.out 3).trans rfl; have hcz21_4 : w20.cell? ⟨gb543, 4, none⟩ = some (.slice none 0 0) := (blk_cell BK543.out 4).trans rfl; have hcz21_5 : w20.cell? ⟨gb543, 5, none⟩ = some (.string (⟨#[]⟩ : ByteArray)) := (blk_cell BK543.out 5).trans rfl; have hcz21_6 : w20.cell? ⟨gb543, 6, none⟩ = some (.string (⟨#[]⟩ : ByteArray)) := (blk_cell BK543.out 6).trans rfl; have hcz21_7 : w20.cell? ⟨gb543, 7, none⟩ = some (.float .f64 (0 : Nat)) := (blk_cell BK543.out 7).trans rfl; have hfz21_0 := blk_frozen BK543.out 0; have hfz21_1 := blk_frozen BK543.out 1; have hfz21_2 := blk_frozen BK543.out 2; have hfz21_3 := blk_frozen BK543.out 3; have hfz21_4 := blk_frozen BK543.out 4; have hfz21_5 := blk_frozen BK543.out 5; have hfz21_6 := blk_frozen BK543.out 6; have hfz21_7 := blk_frozen BK543.out 7) | ((with_reducible refine gate_callee (f := 32) rfl ?_); refine goesL_ (some 24) rfl rfl Tryz.func32 (by kernel_rfl) rfl #[.int .i64 ((rd_T25 l0 x17_2).f0)] rfl sqA ?_; (with_reducible refine (table_Family.calls k2 ((rd_T25 l0 x17_2).f0) t544 _ A10.out).mono ?_); rintro e w' ⟨rfl, ⟨nd, rfl⟩⟩; refine ⟨_, rfl, ?_⟩))
      go_roundg k2
      case measure => have := HJ3.out; have := HK2.out; omega
      case rel => exact ⟨(wrap64 (x17_2 + 1)), sqE, H', ⟨by have := HJ3.out; have := HK2.out; omega⟩, ⟨by repeat (first | (with_reducible first | exact HB.out | apply below_alloc | apply pw_below_drewN | apply below_drew1 | refine below_set ?_ GE543.out) | exact HB.out)⟩⟩
     rw [if_pos c11] at H
     have c11b0 := beq_iff_eq.mpr c11
     have c11b1 := bne_eq_false_iff_eq.mpr c11
     clear c11
     obtain ⟨t545, A12, H⟩ := sqO H
     try dsimp only at H
     by_cases c13 : t545 = true
     ·subst c13
      have H1 : (some x17_2) = some r := by rw [if_pos rfl] at H; exact H
      clear H
      have H := H1
      clear H1
      obtain rfl := Option.some.inj H
      have p542 : 0 ≤ (x17_2 : Int) := sqD
      have q542 : x17_2 < (l0.length : Int) := sqD
      obtain ⟨ad542, A542_4, c542_4, e542, hx542_0, hx542_1, hx542_2, hx542_3, hx542_4, hx542_5, hx542_6, hx542_7, hl542_4, hi542_4⟩ := at_T25 HR0.out x17_2 p542 q542
      cases e542
      replace hx542_0 := (HB.out.cell (World.block_lt_of_cell? w _ hx542_0)).trans hx542_0
      replace hx542_1 := (HB.out.cell (World.block_lt_of_cell? w _ hx542_1)).trans hx542_1
      replace hx542_2 := (HB.out.cell (World.block_lt_of_cell? w _ hx542_2)).trans hx542_2
      replace hx542_3 := (HB.out.cell (World.block_lt_of_cell? w _ hx542_3)).trans hx542_3
      replace hx542_4 := (HB.out.cell (World.block_lt_of_cell? w _ hx542_4)).trans hx542_4
      replace hx542_5 := (HB.out.cell (World.block_lt_of_cell? w _ hx542_5)).trans hx542_5
      replace hx542_6 := (HB.out.cell (World.block_lt_of_cell? w _ hx542_6)).trans hx542_6
      replace hx542_7 := (HB.out.cell (World.block_lt_of_cell? w _ hx542_7)).trans hx542_7
      have HR542_4 := Aside0.mk hi542_4
      have HC542_4 := Aside0.mk hl542_4
      clear hi542_4 hl542_4
      replace p542 := eq_true p542
      replace q542 := eq_true q542
      go_wp2_with (first | ((with_reducible refine gate_dst (N := 8) rfl ?_); refine box_event ?hg (N := 8) ?hd (cs := #[.int .i64 0, .int .i64 0, .int .i64 0, .int .i64 0, .slice none 0 0, .string (⟨#[]⟩ : ByteArray), .string (⟨#[]⟩ : ByteArray), .float .f64 (0 : Nat)]) (t := 25) ?hr ?_; (case hd => rfl); (case hg => rfl); (case hr => first | (go_simp; done) | (go_simp; rfl)); intro gb543 hg w14 hbox hb; have n0_ := Aside0.mk (below_step sqB hb); have n1_ := Aside0.mk (hbox); have n2_ := Aside0.mk ((by rw [hg]; exact (below_size sqB) : w.heap.size ≤ gb543)); have n3_ := Aside0.mk ((by rw [hg]; exact (below_size sqB) : w.heap.size ≤ gb543)); clear HB; have HB := n0_; have BK543 := n1_; have GW543 := n2_; have GE543 := n3_; clear n0_ n1_ n2_ n3_; clear hb hbox hg; have hcz15_0 : w14.cell? ⟨gb543, 0, none⟩ = some (.int .i64 0) := (blk_cell BK543.out 0).trans rfl; have hcz15_1 : w14.cell? ⟨gb543, 1, none⟩ = some (.int .i64 0) := (blk_cell BK543.out 1).trans rfl; have hcz15_2 : w14.cell? ⟨gb543, 2, none⟩ = some (.int .i64 0) := (blk_cell BK543.out 2).trans rfl; have hcz15_3 : w14.cell? ⟨gb543, 3, none⟩ = some (.int .i64 0) := (blk_cell BK543.out 3).trans rfl; have hcz15_4 : w14.cell? ⟨gb543, 4, none⟩ = some (.slice none 0 0) := (blk_cell BK543.out 4).trans rfl; have hcz15_5 : w14.cell? ⟨gb543, 5, none⟩ = some (.string (⟨#[]⟩ : ByteArray)) := (blk_cell BK543.out 5).trans rfl; have hcz15_6 : w14.cell? ⟨gb543, 6, none⟩ = some (.string (⟨#[]⟩ : ByteArray)) := (blk_cell BK543.out 6).trans rfl; have hcz15_7 : w14.cell? ⟨gb543, 7, none⟩ = some (.float .f64 (0 : Nat)) := (blk_cell BK543.out 7).trans rfl; have hfz15_0 := blk_frozen BK543.out 0; have hfz15_1 := blk_frozen BK543.out 1; have hfz15_2 := blk_frozen BK543.out 2; have hfz15_3 := blk_frozen BK543.out 3; have hfz15_4 := blk_frozen BK543.out 4; have hfz15_5 := blk_frozen BK543.out 5; have hfz15_6 := blk_frozen BK543.out 6; have hfz15_7 := blk_frozen BK543.out 7) | ((with_reducible refine gate_callee (f := 32) rfl ?_); refine goesL_ (some 24) rfl rfl Tryz.func32 (by kernel_rfl) rfl #[.int .i64 ((rd_T25 l0 x17_2).f0)] rfl sqA ?_; (with_reducible refine (table_Family.calls k2 ((rd_T25 l0 x17_2).f0) t544 _ A10.out).mono ?_); rintro e w' ⟨rfl, ⟨nd, rfl⟩⟩; refine ⟨_, rfl, ?_⟩) | (go_at_call 70; (with_reducible refine (table_speaks.calls ((rd_T25 l0 x17_2).f0) ((rd_T25 l0 x17_2).f1) ((rd_T25 l0 x17_2).f2) ((rd_T25 l0 x17_2).f3) _ _ ((rd_T25 l0 x17_2).f4) ((rd_T25 l0 x17_2).f5) ((rd_T25 l0 x17_2).f6) ((rd_T25 l0 x17_2).f7) (wrap64 (a2)) true _ ?side1 ?side2 A12.out).mono ?_); (case side1 => exact Kd.C_below HR542_4.out (by repeat (first | (with_reducible first | exact HB.out | apply below_alloc | apply pw_below_drewN | apply below_drew1 | refine below_set ?_ GE543.out) | exact HB.out))); (case side2 => exact HC542_4.out); rintro e w16 ⟨rfl, hb⟩; have n0_ := Aside0.mk (blk_below (g := gb543) (o := .cells #[.int .i64 ((rd_T25 l0 x17_2).f0), .int .i64 ((rd_T25 l0 x17_2).f1), .int .i64 ((rd_T25 l0 x17_2).f2), .int .i64 ((rd_T25 l0 x17_2).f3), .slice A542_4 ((rd_T25 l0 x17_2).f4).length c542_4, .string ((rd_T25 l0 x17_2).f5), .string ((rd_T25 l0 x17_2).f6), .float .f64 ((rd_T25 l0 x17_2).f7)] 25 (0, 0)) (by (with_reducible repeat (first | refine blk_drewN ?_ _ | refine blk_drew ?_ | refine blk_alloc ?_ _)); refine blk_put (cs := #[.int .i64 ((rd_T25 l0 x17_2).f0), .int .i64 ((rd_T25 l0 x17_2).f1), .int .i64 ((rd_T25 l0 x17_2).f2), .int .i64 ((rd_T25 l0 x17_2).f3), .slice A542_4 ((rd_T25 l0 x17_2).f4).length c542_4, .string ((rd_T25 l0 x17_2).f5), .string ((rd_T25 l0 x17_2).f6), .float .f64 (0 : Nat)]) ?_ 7 _ rfl; (with_reducible repeat (first | refine blk_drewN ?_ _ | refine blk_drew ?_ | refine blk_alloc ?_ _)); refine blk_put (cs := #[.int .i64 ((rd_T25 l0 x17_2).f0), .int .i64 ((rd_T25 l0 x17_2).f1), .int .i64 ((rd_T25 l0 x17_2).f2), .int .i64 ((rd_T25 l0 x17_2).f3), .slice A542_4 ((rd_T25 l0 x17_2).f4).length c542_4, .string ((rd_T25 l0 x17_2).f5), .string (⟨#[]⟩ : ByteArray), .float .f64 (0 : Nat)]) ?_ 6 _ rfl; (with_reducible repeat (first | refine blk_drewN ?_ _ | refine blk_drew ?_ | refine blk_alloc ?_ _)); refine blk_put (cs := #[.int .i64 ((rd_T25 l0 x17_2).f0), .int .i64 ((rd_T25 l0 x17_2).f1), .int .i64 ((rd_T25 l0 x17_2).f2), .int .i64 ((rd_T25 l0 x17_2).f3), .slice A542_4 ((rd_T25 l0 x17_2).f4).length c542_4, .string (⟨#[]⟩ : ByteArray), .string (⟨#[]⟩ : ByteArray), .float .f64 (0 : Nat)]) ?_ 5 _ rfl; (with_reducible repeat (first | refine blk_drewN ?_ _ | refine blk_drew ?_ | refine blk_alloc ?_ _)); refine blk_put (cs := #[.int .i64 ((rd_T25 l0 x17_2).f0), .int .i64 ((rd_T25 l0 x17_2).f1), .int .i64 ((rd_T25 l0 x17_2).f2), .int .i64 ((rd_T25 l0 x17_2).f3), .slice none 0 0, .string (⟨#[]⟩ : ByteArray), .string (⟨#[]⟩ : ByteArray), .float .f64 (0 : Nat)]) ?_ 4 _ rfl; (with_reducible repeat (first | refine blk_drewN ?_ _ | refine blk_drew ?_ | refine blk_alloc ?_ _)); refine blk_put (cs := #[.int .i64 ((rd_T25 l0 x17_2).f0), .int .i64 ((rd_T25 l0 x17_2).f1), .int .i64 ((rd_T25 l0 x17_2).f2), .int .i64 0, .slice none 0 0, .string (⟨#[]⟩ : ByteArray), .string (⟨#[]⟩ : ByteArray), .float .f64 (0 : Nat)]) ?_ 3 _ rfl; (with_reducible repeat (first | refine blk_drewN ?_ _ | refine blk_drew ?_ | refine blk_alloc ?_ _)); refine blk_put (cs := #[.int .i64 ((rd_T25 l0 x17_2).f0), .int .i64 ((rd_T25 l0 x17_2).f1), .int .i64 0, .int .i64 0, .slice none 0 0, .string (⟨#[]⟩ : ByteArray), .string (⟨#[]⟩ : ByteArray), .float .f64 (0 : Nat)]) ?_ 2 _ rfl; (with_reducible repeat (first | refine blk_drewN ?_ _ | refine blk_drew ?_ | refine blk_alloc ?_ _)); refine blk_put (cs := #[.int .i64 ((rd_T25 l0 x17_2).f0), .int .i64 0, .int .i64 0, .int .i64 0, .slice none 0 0, .string (⟨#[]⟩ : ByteArray), .string (⟨#[]⟩ : ByteArray), .float .f64 (0 : Nat)]) ?_ 1 _ rfl; (with_reducible repeat (first | refine blk_drewN ?_ _ | refine blk_drew ?_ | refine blk_alloc ?_ _)); refine blk_put (cs := #[.int .i64 0, .int .i64 0, .int .i64 0, .int .i64 0, .slice none 0 0, .string (⟨#[]⟩ : ByteArray), .string (⟨#[]⟩ : ByteArray), .float .f64 (0 : Nat)]) ?_ 0 _ rfl; (with_reducible repeat (first | refine blk_drewN ?_ _ | refine blk_drew ?_ | refine blk_alloc ?_ _)); exact BK543.out) hb); have n1_ := Aside0.mk (below_step (by repeat (first | (with_reducible first | exact HB.out | apply below_alloc | apply pw_below_drewN | apply below_drew1 | refine below_set ?_ GE543.out) | exact HB.out)) hb); clear BK543; clear HB; have BK543 := n0_; have HB := n1_; clear n0_ n1_; (try clear hb); (try clear hb2); (try clear hk); (try clear hi)))
      go_ret
      exact ⟨sqE', by repeat (first | (with_reducible first | exact HB.out | apply below_alloc | apply pw_below_drewN | apply below_drew1 | refine below_set ?_ GE543.out) | exact HB.out)⟩
     replace c13 := Bool.eq_false_iff.mpr c13
     subst c13
     have H1 : (table_Find.l0 k2 a1 a2 l0 (l0.length : Int) (wrap64 (x17_2 + 1))) = some r := by rw [if_neg (show ¬ (false = true) by decide)] at H; exact H
     clear H
     have H := H1
     clear H1
     have H' := Aside0.mk H
     clear H
     have p542 : 0 ≤ (x17_2 : Int) := sqD
     have q542 : x17_2 < (l0.length : Int) := sqD
     obtain ⟨ad542, A542_4, c542_4, e542, hx542_0, hx542_1, hx542_2, hx542_3, hx542_4, hx542_5, hx542_6, hx542_7, hl542_4, hi542_4⟩ := at_T25 HR0.out x17_2 p542 q542
     cases e542
     replace hx542_0 := (HB.out.cell (World.block_lt_of_cell? w _ hx542_0)).trans hx542_0
     replace hx542_1 := (HB.out.cell (World.block_lt_of_cell? w _ hx542_1)).trans hx542_1
     replace hx542_2 := (HB.out.cell (World.block_lt_of_cell? w _ hx542_2)).trans hx542_2
     replace hx542_3 := (HB.out.cell (World.block_lt_of_cell? w _ hx542_3)).trans hx542_3
     replace hx542_4 := (HB.out.cell (World.block_lt_of_cell? w _ hx542_4)).trans hx542_4
     replace hx542_5 := (HB.out.cell (World.block_lt_of_cell? w _ hx542_5)).trans hx542_5
     replace hx542_6 := (HB.out.cell (World.block_lt_of_cell? w _ hx542_6)).trans hx542_6
     replace hx542_7 := (HB.out.cell (World.block_lt_of_cell? w _ hx542_7)).trans hx542_7
     have HR542_4 := Aside0.mk hi542_4
     have HC542_4 := Aside0.mk hl542_4
     clear hi542_4 hl542_4
     replace p542 := eq_true p542
     replace q542 := eq_true q542
     go_wp2_with (first | ((with_reducible refine gate_dst (N := 8) rfl ?_); refine box_event ?hg (N := 8) ?hd (cs := #[.int .i64 0, .int .i64 0, .int .i64 0, .int .i64 0, .slice none 0 0, .string (⟨#[]⟩ : ByteArray), .string (⟨#[]⟩ : ByteArray), .float .f64 (0 : Nat)]) (t := 25) ?hr ?_; (case hd => rfl); (case hg => rfl); (case hr => first | (go_simp; done) | (go_simp; rfl)); intro gb543 hg w17 hbox hb; have n0_ := Aside0.mk (below_step sqB hb); have n1_ := Aside0.mk (hbox); have n2_ := Aside0.mk ((by rw [hg]; exact (below_size sqB) : w.heap.size ≤ gb543)); have n3_ := Aside0.mk ((by rw [hg]; exact (below_size sqB) : w.heap.size ≤ gb543)); clear HB; have HB := n0_; have BK543 := n1_; have GW543 := n2_; have GE543 := n3_; clear n0_ n1_ n2_ n3_; clear hb hbox hg; have hcz18_0 : w17.cell? ⟨gb543, 0, none⟩ = some (.int .i64 0) := (blk_cell BK543.out 0).trans rfl; have hcz18_1 : w17.cell? ⟨gb543, 1, none⟩ = some (.int .i64 0) := (blk_cell BK543.out 1).trans rfl; have hcz18_2 : w17.cell? ⟨gb543, 2, none⟩ = some (.int .i64 0) := (blk_cell BK543.out 2).trans rfl; have hcz18_3 : w17.cell? ⟨gb543, 3, none⟩ = some (.int .i64 0) := (blk_cell BK543.out 3).trans rfl; have hcz18_4 : w17.cell? ⟨gb543, 4, none⟩ = some (.slice none 0 0) := (blk_cell BK543.out 4).trans rfl; have hcz18_5 : w17.cell? ⟨gb543, 5, none⟩ = some (.string (⟨#[]⟩ : ByteArray)) := (blk_cell BK543.out 5).trans rfl; have hcz18_6 : w17.cell? ⟨gb543, 6, none⟩ = some (.string (⟨#[]⟩ : ByteArray)) := (blk_cell BK543.out 6).trans rfl; have hcz18_7 : w17.cell? ⟨gb543, 7, none⟩ = some (.float .f64 (0 : Nat)) := (blk_cell BK543.out 7).trans rfl; have hfz18_0 := blk_frozen BK543.out 0; have hfz18_1 := blk_frozen BK543.out 1; have hfz18_2 := blk_frozen BK543.out 2; have hfz18_3 := blk_frozen BK543.out 3; have hfz18_4 := blk_frozen BK543.out 4; have hfz18_5 := blk_frozen BK543.out 5; have hfz18_6 := blk_frozen BK543.out 6; have hfz18_7 := blk_frozen BK543.out 7) | ((with_reducible refine gate_callee (f := 32) rfl ?_); refine goesL_ (some 24) rfl rfl Tryz.func32 (by kernel_rfl) rfl #[.int .i64 ((rd_T25 l0 x17_2).f0)] rfl sqA ?_; (with_reducible refine (table_Family.calls k2 ((rd_T25 l0 x17_2).f0) t544 _ A10.out).mono ?_); rintro e w' ⟨rfl, ⟨nd, rfl⟩⟩; refine ⟨_, rfl, ?_⟩) | (go_at_call 70; (with_reducible refine (table_speaks.calls ((rd_T25 l0 x17_2).f0) ((rd_T25 l0 x17_2).f1) ((rd_T25 l0 x17_2).f2) ((rd_T25 l0 x17_2).f3) _ _ ((rd_T25 l0 x17_2).f4) ((rd_T25 l0 x17_2).f5) ((rd_T25 l0 x17_2).f6) ((rd_T25 l0 x17_2).f7) (wrap64 (a2)) false _ ?side1 ?side2 A12.out).mono ?_); (case side1 => exact Kd.C_below HR542_4.out (by repeat (first | (with_reducible first | exact HB.out | apply below_alloc | apply pw_below_drewN | apply below_drew1 | refine below_set ?_ GE543.out) | exact HB.out))); (case side2 => exact HC542_4.out); rintro e w19 ⟨rfl, hb⟩; have n0_ := Aside0.mk (blk_below (g := gb543) (o := .cells #[.int .i64 ((rd_T25 l0 x17_2).f0), .int .i64 ((rd_T25 l0 x17_2).f1), .int .i64 ((rd_T25 l0 x17_2).f2), .int .i64 ((rd_T25 l0 x17_2).f3), .slice A542_4 ((rd_T25 l0 x17_2).f4).length c542_4, .string ((rd_T25 l0 x17_2).f5), .string ((rd_T25 l0 x17_2).f6), .float .f64 ((rd_T25 l0 x17_2).f7)] 25 (0, 0)) (by (with_reducible repeat (first | refine blk_drewN ?_ _ | refine blk_drew ?_ | refine blk_alloc ?_ _)); refine blk_put (cs := #[.int .i64 ((rd_T25 l0 x17_2).f0), .int .i64 ((rd_T25 l0 x17_2).f1), .int .i64 ((rd_T25 l0 x17_2).f2), .int .i64 ((rd_T25 l0 x17_2).f3), .slice A542_4 ((rd_T25 l0 x17_2).f4).length c542_4, .string ((rd_T25 l0 x17_2).f5), .string ((rd_T25 l0 x17_2).f6), .float .f64 (0 : Nat)]) ?_ 7 _ rfl; (with_reducible repeat (first | refine blk_drewN ?_ _ | refine blk_drew ?_ | refine blk_alloc ?_ _)); refine blk_put (cs := #[.int .i64 ((rd_T25 l0 x17_2).f0), .int .i64 ((rd_T25 l0 x17_2).f1), .int .i64 ((rd_T25 l0 x17_2).f2), .int .i64 ((rd_T25 l0 x17_2).f3), .slice A542_4 ((rd_T25 l0 x17_2).f4).length c542_4, .string ((rd_T25 l0 x17_2).f5), .string (⟨#[]⟩ : ByteArray), .float .f64 (0 : Nat)]) ?_ 6 _ rfl; (with_reducible repeat (first | refine blk_drewN ?_ _ | refine blk_drew ?_ | refine blk_alloc ?_ _)); refine blk_put (cs := #[.int .i64 ((rd_T25 l0 x17_2).f0), .int .i64 ((rd_T25 l0 x17_2).f1), .int .i64 ((rd_T25 l0 x17_2).f2), .int .i64 ((rd_T25 l0 x17_2).f3), .slice A542_4 ((rd_T25 l0 x17_2).f4).length c542_4, .string (⟨#[]⟩ : ByteArray), .string (⟨#[]⟩ : ByteArray), .float .f64 (0 : Nat)]) ?_ 5 _ rfl; (with_reducible repeat (first | refine blk_drewN ?_ _ | refine blk_drew ?_ | refine blk_alloc ?_ _)); refine blk_put (cs := #[.int .i64 ((rd_T25 l0 x17_2).f0), .int .i64 ((rd_T25 l0 x17_2).f1), .int .i64 ((rd_T25 l0 x17_2).f2), .int .i64 ((rd_T25 l0 x17_2).f3), .slice none 0 0, .string (⟨#[]⟩ : ByteArray), .string (⟨#[]⟩ : ByteArray), .float .f64 (0 : Nat)]) ?_ 4 _ rfl; (with_reducible repeat (first | refine blk_drewN ?_ _ | refine blk_drew ?_ | refine blk_alloc ?_ _)); refine blk_put (cs := #[.int .i64 ((rd_T25 l0 x17_2).f0), .int .i64 ((rd_T25 l0 x17_2).f1), .int .i64 ((rd_T25 l0 x17_2).f2), .int .i64 0, .slice none 0 0, .string (⟨#[]⟩ : ByteArray), .string (⟨#[]⟩ : ByteArray), .float .f64 (0 : Nat)]) ?_ 3 _ rfl; (with_reducible repeat (first | refine blk_drewN ?_ _ | refine blk_drew ?_ | refine blk_alloc ?_ _)); refine blk_put (cs := #[.int .i64 ((rd_T25 l0 x17_2).f0), .int .i64 ((rd_T25 l0 x17_2).f1), .int .i64 0, .int .i64 0, .slice none 0 0, .string (⟨#[]⟩ : ByteArray), .string (⟨#[]⟩ : ByteArray), .float .f64 (0 : Nat)]) ?_ 2 _ rfl; (with_reducible repeat (first | refine blk_drewN ?_ _ | refine blk_drew ?_ | refine blk_alloc ?_ _)); refine blk_put (cs := #[.int .i64 ((rd_T25 l0 x17_2).f0), .int .i64 0, .int .i64 0, .int .i64 0, .slice none 0 0, .string (⟨#[]⟩ : ByteArray), .string (⟨#[]⟩ : ByteArray), .float .f64 (0 : Nat)]) ?_ 1 _ rfl; (with_reducible repeat (first | refine blk_drewN ?_ _ | refine blk_drew ?_ | refine blk_alloc ?_ _)); refine blk_put (cs := #[.int .i64 0, .int .i64 0, .int .i64 0, .int .i64 0, .slice none 0 0, .string (⟨#[]⟩ : ByteArray), .string (⟨#[]⟩ : ByteArray), .float .f64 (0 : Nat)]) ?_ 0 _ rfl; (with_reducible repeat (first | refine blk_drewN ?_ _ | refine blk_drew ?_ | refine blk_alloc ?_ _)); exact BK543.out) hb); have n1_ := Aside0.mk (below_step (by repeat (first | (with_reducible first | exact HB.out | apply below_alloc | apply pw_below_drewN | apply below_drew1 | refine below_set ?_ GE543.out) | exact HB.out)) hb); clear BK543; clear HB; have BK543 := n0_; have HB := n1_; clear n0_ n1_; (try clear hb); (try clear hb2); (try clear hk); (try clear hi)))
     go_roundg k2
     case measure => have := HJ3.out; have := HK2.out; omega
     case rel => exact ⟨(wrap64 (x17_2 + 1)), sqE, H', ⟨by have := HJ3.out; have := HK2.out; omega⟩, ⟨by repeat (first | (with_reducible first | exact HB.out | apply below_alloc | apply pw_below_drewN | apply below_drew1 | refine below_set ?_ GE543.out) | exact HB.out)⟩⟩
end Go.Proofs.YtnoppeocbfapdaaGreatDoor.T
