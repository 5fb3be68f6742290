import Derived.Test.YtnoppeocbfapdaaGreatDoorTx0
import Derived.Test.YtnoppeocbfapdaaGreatDoorTx15
namespace Go.Proofs.YtnoppeocbfapdaaGreatDoor.T
open Go.RowKit Go.Proofs.YtnoppeocbfapdaaGreatDoorW.PrintWords Go.Proofs.YtnoppeocbfapdaaGreatDoorW.PrintLast Go.Proofs.YtnoppeocbfapdaaGreatDoorW.PrintMore
set_option maxHeartbeats 8000000
set_option maxRecDepth 100000
attribute [local go_sem] max2_int min2_int max_two min_two max_three min_three max_four min_four
set_option linter.unusedVariables false
set_option linter.unusedSimpArgs false
def endonymref6_Same.l0 : Nat → List (S25) → List (S25) → Int → Option (Bool)
 | 0, _, _, _ => none
 | k + 1, x0, x1, x5 => if x5 < (x0.length : Int) then (if 0 ≤ x5 then (if x5 < (x1.length : Int) then ((endonymref6_SameRecord.f k ((rd_T25 x0 x5).f0) ((rd_T25 x0 x5).f1) ((rd_T25 x0 x5).f2) ((rd_T25 x0 x5).f3) ((rd_T25 x0 x5).f4) ((rd_T25 x0 x5).f5) ((rd_T25 x0 x5).f6) ((rd_T25 x0 x5).f7) ((rd_T25 x1 x5).f0) ((rd_T25 x1 x5).f1) ((rd_T25 x1 x5).f2) ((rd_T25 x1 x5).f3) ((rd_T25 x1 x5).f4) ((rd_T25 x1 x5).f5) ((rd_T25 x1 x5).f6) ((rd_T25 x1 x5).f7)).bind fun t536 => (if t536 = true then (endonymref6_Same.l0 k x0 x1 (wrap64 (x5 + 1))) else (some false))) else (none)) else (none)) else (some true)
def endonymref6_Same.f (k : Nat) (l0 : List (S25)) (l1 : List (S25)) : Option (Bool) := if (l0.length : Int) = (l1.length : Int) then (endonymref6_Same.l0 k l0 l1 0) else (some false)
theorem endonymref6_Same.mono_l : ∀ k, (∀ y0 y1 y2, LeO (endonymref6_Same.l0 k y0 y1 y2) (endonymref6_Same.l0 (k + 1) y0 y1 y2))
 | 0 => fun _ _ _ r h => by simp [endonymref6_Same.l0] at h
 | k + 1 => by
  have ih0 := endonymref6_Same.mono_l k
  intro y0 y1 y2
  unfold endonymref6_Same.l0
  repeat' first | (with_reducible first | apply ih0 | apply endonymref6_SameRecord.mono | apply LeO.refl | apply LeO.none | refine LeO.ite ?_ ?_ | refine LeO.bind ?_ (fun _ => ?_)) | apply LeO.none | refine LeO.ite ?_ ?_ | refine LeO.bind ?_ (fun _ => ?_)
theorem endonymref6_Same.mono : ∀ a0 a1 k, LeO (endonymref6_Same.f k a0 a1) (endonymref6_Same.f (k + 1) a0 a1) := by
 intro a0 a1 k
 have ih0 := endonymref6_Same.mono_l k
 unfold endonymref6_Same.f
 repeat' first | (with_reducible first | apply ih0 | apply endonymref6_SameRecord.mono | apply LeO.refl | apply LeO.none | refine LeO.ite ?_ ?_ | refine LeO.bind ?_ (fun _ => ?_)) | apply LeO.none | refine LeO.ite ?_ ?_ | refine LeO.bind ?_ (fun _ => ?_)
def endonymref6_Same.T6 : Bool × List (List Nat × List Nat) := (true, [([], []), ([], []), ([0, 1], [0, 1]), ([2], [2]), ([], []), ([], []), ([4, 5], [4, 5]), ([6], [6]), ([3, 7], [3, 7]), ([8], [8])])
def endonymref6_Same.B6 : List Nat := [0, 0, 3, 7, 0, 0, 48, 112, 255, 511]
theorem endonymref6_Same.tab6 : rtab .any (opsOf Tryz.f26 6) = endonymref6_Same.T6 := by kernel_rfl
theorem endonymref6_Same.bits6 : waitsOk endonymref6_Same.T6.2 endonymref6_Same.B6 = true := by kernel_rfl
theorem endonymref6_Same.calls (k : Nat) (A0 : Option Addr) (c0 : Nat) (l0 : List (S25)) (A1 : Option Addr) (c1 : Nat) (l1 : List (S25)) (r : Bool) (w : World) (hr0 : Kd.C k25 w A0 l0.length l0) (hc0 : l0.length ≤ c0) (hr1 : Kd.C k25 w A1 l1.length l1) (hc1 : l1.length ≤ c1) (h : endonymref6_Same.f k l0 l1 = some r) :
  Calls Tryz.prog 26 #[.slice A0 l0.length c0, .slice A1 l1.length c1] w fun e w' => e = .returned (.bool r) ∧ Below w.heap.size w w' := by
 have hu25 := Tryz.underlying25
 have HR0 := Aside0.mk hr0
 have HC0 := Aside0.mk hc0
 clear hr0 hc0
 have HR1 := Aside0.mk hr1
 have HC1 := Aside0.mk hc1
 clear hr1 hc1
 have HB := Aside0.mk (Below.refl w.heap.size w)
 have H : (if (l0.length : Int) = (l1.length : Int) then (endonymref6_Same.l0 k l0 l1 0) else (some false)) = some r := h
 clear h
 by_cases c3 : (l0.length : Int) = (l1.length : Int)
 case neg =>
  rw [if_neg c3] at H
  have c3b0 := beq_eq_false_iff_ne.mpr c3
  have c3b1 := bne_iff_ne.mpr c3
  have c3b2 : (l0.length == l1.length) = false := by first | simpa using c3 | (simp at c3 ⊢; omega)
  obtain rfl := Option.some.inj H
  go_enter Tryz.func26, Tryz.ntmps26
  go_wp2
  go_ret
  exact ⟨sqE', sqB⟩
 rw [if_pos c3] at H
 have c3b0 := beq_iff_eq.mpr c3
 have c3b1 := bne_eq_false_iff_eq.mpr c3
 have c3b2 : (l0.length == l1.length) = true := by first | simpa using c3 | (simp at c3 ⊢; omega)
 clear c3
 have H' := Aside0.mk H
 clear H
 go_enter Tryz.func26, Tryz.ntmps26
 go_wp2
 go_loopg [5] k (fun kq v5 w' => ∃ (x5_1 : Int), v5 = .int .i64 x5_1 ∧ Aside0 (endonymref6_Same.l0 kq l0 l1 x5_1 = some r) ∧ Aside0 (kq ≤ k) ∧ Aside0 (Below w.heap.size w w'))
 case atStart => exact ⟨(0), sqE, H', ⟨Nat.le_refl _⟩, ⟨sqB⟩⟩
 case round =>
  clear H'
  try clear c1
  try clear c2
  try clear p2
  try clear c3
  try clear c3b0
  try clear c3b1
  try clear c3b2
  obtain ⟨x5_1, rfl, HA, HK1, HB⟩ := hrel
  cases gk with
  | zero => exact absurd HA.out (by simp [endonymref6_Same.l0])
  | succ k1 =>
   have H := HA.out
   clear HA
   simp only [endonymref6_Same.l0] at H
   by_cases c4 : x5_1 < (l0.length : Int)
   case neg =>
    rw [if_neg c4] at H
    have c4b0 := decide_eq_false c4
    clear c4
    obtain rfl := Option.some.inj H
    go_wp2
    go_ret
    exact ⟨sqE', sqB⟩
   rw [if_pos c4] at H
   have c4b0 := decide_eq_true c4
   clear c4
   by_cases c5 : 0 ≤ x5_1
   case neg => rw [if_neg c5] at H; exact absurd H (by simp)
   rw [if_pos c5] at H
   have c5b0 := decide_eq_true c5
   clear c5
   by_cases c6 : x5_1 < (l1.length : Int)
   case neg => rw [if_neg c6] at H; exact absurd H (by simp)
   rw [if_pos c6] at H
   have c6b0 := decide_eq_true c6
   clear c6
   obtain ⟨t536, A7, H⟩ := sqO H
   try dsimp only at H
   by_cases c8 : t536 = true
   ·subst c8
    have H1 : (endonymref6_Same.l0 k1 l0 l1 (wrap64 (x5_1 + 1))) = some r := by rw [if_pos rfl] at H; exact H
    clear H
    have H := H1
    clear H1
    have H' := Aside0.mk H
    clear H
    try go_wp2
    have n0_ := Aside0.mk (below_drew1 HB.out)
    clear HB
    have HB := n0_
    clear n0_
    have p534 : 0 ≤ (x5_1 : Int) := sqD
    have q534 : x5_1 < (l0.length : Int) := sqD
    obtain ⟨ad534, A534_4, c534_4, e534, hx534_0, hx534_1, hx534_2, hx534_3, hx534_4, hx534_5, hx534_6, hx534_7, hl534_4, hi534_4⟩ := at_T25 HR0.out x5_1 p534 q534
    have hw534_7 := hx534_7
    have hw534_6 := hx534_6
    have hw534_5 := hx534_5
    have hw534_4 := hx534_4
    have hw534_3 := hx534_3
    have hw534_2 := hx534_2
    have hw534_1 := hx534_1
    have hw534_0 := hx534_0
    cases e534
    replace hx534_0 := (HB.out.cell (World.block_lt_of_cell? w _ hx534_0)).trans hx534_0
    replace hx534_1 := (HB.out.cell (World.block_lt_of_cell? w _ hx534_1)).trans hx534_1
    replace hx534_2 := (HB.out.cell (World.block_lt_of_cell? w _ hx534_2)).trans hx534_2
    replace hx534_3 := (HB.out.cell (World.block_lt_of_cell? w _ hx534_3)).trans hx534_3
    replace hx534_4 := (HB.out.cell (World.block_lt_of_cell? w _ hx534_4)).trans hx534_4
    replace hx534_5 := (HB.out.cell (World.block_lt_of_cell? w _ hx534_5)).trans hx534_5
    replace hx534_6 := (HB.out.cell (World.block_lt_of_cell? w _ hx534_6)).trans hx534_6
    replace hx534_7 := (HB.out.cell (World.block_lt_of_cell? w _ hx534_7)).trans hx534_7
    have HR534_4 := Aside0.mk hi534_4
    have HC534_4 := Aside0.mk hl534_4
    clear hi534_4 hl534_4
    replace p534 := eq_true p534
    replace q534 := eq_true q534
    have p535 : 0 ≤ (x5_1 : Int) := sqD
    have q535 : x5_1 < (l1.length : Int) := sqD
    obtain ⟨ad535, A535_4, c535_4, e535, hx535_0, hx535_1, hx535_2, hx535_3, hx535_4, hx535_5, hx535_6, hx535_7, hl535_4, hi535_4⟩ := at_T25 HR1.out x5_1 p535 q535
    have hw535_7 := hx535_7
    have hw535_6 := hx535_6
    have hw535_5 := hx535_5
    have hw535_4 := hx535_4
    have hw535_3 := hx535_3
    have hw535_2 := hx535_2
    have hw535_1 := hx535_1
    have hw535_0 := hx535_0
    cases e535
    replace hx535_0 := (HB.out.cell (World.block_lt_of_cell? w _ hx535_0)).trans hx535_0
    replace hx535_1 := (HB.out.cell (World.block_lt_of_cell? w _ hx535_1)).trans hx535_1
    replace hx535_2 := (HB.out.cell (World.block_lt_of_cell? w _ hx535_2)).trans hx535_2
    replace hx535_3 := (HB.out.cell (World.block_lt_of_cell? w _ hx535_3)).trans hx535_3
    replace hx535_4 := (HB.out.cell (World.block_lt_of_cell? w _ hx535_4)).trans hx535_4
    replace hx535_5 := (HB.out.cell (World.block_lt_of_cell? w _ hx535_5)).trans hx535_5
    replace hx535_6 := (HB.out.cell (World.block_lt_of_cell? w _ hx535_6)).trans hx535_6
    replace hx535_7 := (HB.out.cell (World.block_lt_of_cell? w _ hx535_7)).trans hx535_7
    have HR535_4 := Aside0.mk hi535_4
    have HC535_4 := Aside0.mk hl535_4
    clear hi535_4 hl535_4
    replace p535 := eq_true p535
    replace q535 := eq_true q535
    refine start_ (n := 10) (S := fun w' => w'.cell? (ad534.add ((x5_1).toNat * 8)) = some (.int .i64 ((rd_T25 l0 x5_1).f0)) ∧ w'.cell? ⟨(ad534.add ((x5_1).toNat * 8)).block, (ad534.add ((x5_1).toNat * 8)).off + 1, none⟩ = some (.int .i64 ((rd_T25 l0 x5_1).f1)) ∧ w'.cell? ⟨(ad534.add ((x5_1).toNat * 8)).block, (ad534.add ((x5_1).toNat * 8)).off + 2, none⟩ = some (.int .i64 ((rd_T25 l0 x5_1).f2)) ∧ w'.cell? ⟨(ad534.add ((x5_1).toNat * 8)).block, (ad534.add ((x5_1).toNat * 8)).off + 3, none⟩ = some (.int .i64 ((rd_T25 l0 x5_1).f3)) ∧ w'.cell? ⟨(ad534.add ((x5_1).toNat * 8)).block, (ad534.add ((x5_1).toNat * 8)).off + 4, none⟩ = some (.slice A534_4 ((rd_T25 l0 x5_1).f4).length c534_4) ∧ w'.cell? ⟨(ad534.add ((x5_1).toNat * 8)).block, (ad534.add ((x5_1).toNat * 8)).off + 5, none⟩ = some (.string ((rd_T25 l0 x5_1).f5)) ∧ w'.cell? ⟨(ad534.add ((x5_1).toNat * 8)).block, (ad534.add ((x5_1).toNat * 8)).off + 6, none⟩ = some (.string ((rd_T25 l0 x5_1).f6)) ∧ w'.cell? ⟨(ad534.add ((x5_1).toNat * 8)).block, (ad534.add ((x5_1).toNat * 8)).off + 7, none⟩ = some (.float .f64 ((rd_T25 l0 x5_1).f7)) ∧ w'.cell? (ad535.add ((x5_1).toNat * 8)) = some (.int .i64 ((rd_T25 l1 x5_1).f0)) ∧ w'.cell? ⟨(ad535.add ((x5_1).toNat * 8)).block, (ad535.add ((x5_1).toNat * 8)).off + 1, none⟩ = some (.int .i64 ((rd_T25 l1 x5_1).f1)) ∧ w'.cell? ⟨(ad535.add ((x5_1).toNat * 8)).block, (ad535.add ((x5_1).toNat * 8)).off + 2, none⟩ = some (.int .i64 ((rd_T25 l1 x5_1).f2)) ∧ w'.cell? ⟨(ad535.add ((x5_1).toNat * 8)).block, (ad535.add ((x5_1).toNat * 8)).off + 3, none⟩ = some (.int .i64 ((rd_T25 l1 x5_1).f3)) ∧ w'.cell? ⟨(ad535.add ((x5_1).toNat * 8)).block, (ad535.add ((x5_1).toNat * 8)).off + 4, none⟩ = some (.slice A535_4 ((rd_T25 l1 x5_1).f4).length c535_4) ∧ w'.cell? ⟨(ad535.add ((x5_1).toNat * 8)).block, (ad535.add ((x5_1).toNat * 8)).off + 5, none⟩ = some (.string ((rd_T25 l1 x5_1).f5)) ∧ w'.cell? ⟨(ad535.add ((x5_1).toNat * 8)).block, (ad535.add ((x5_1).toNat * 8)).off + 6, none⟩ = some (.string ((rd_T25 l1 x5_1).f6)) ∧ w'.cell? ⟨(ad535.add ((x5_1).toNat * 8)).block, (ad535.add ((x5_1).toNat * 8)).off + 7, none⟩ = some (.float .f64 ((rd_T25 l1 x5_1).f7))) (ds := []) (bm 10 0) (by kernel_rfl) rfl rfl ⟨((HB.out.cell (World.block_lt_of_cell? w _ hw534_0)).trans hw534_0), ((HB.out.cell (World.block_lt_of_cell? w _ hw534_1)).trans hw534_1), ((HB.out.cell (World.block_lt_of_cell? w _ hw534_2)).trans hw534_2), ((HB.out.cell (World.block_lt_of_cell? w _ hw534_3)).trans hw534_3), ((HB.out.cell (World.block_lt_of_cell? w _ hw534_4)).trans hw534_4), ((HB.out.cell (World.block_lt_of_cell? w _ hw534_5)).trans hw534_5), ((HB.out.cell (World.block_lt_of_cell? w _ hw534_6)).trans hw534_6), ((HB.out.cell (World.block_lt_of_cell? w _ hw534_7)).trans hw534_7), ((HB.out.cell (World.block_lt_of_cell? w _ hw535_0)).trans hw535_0), ((HB.out.cell (World.block_lt_of_cell? w _ hw535_1)).trans hw535_1), ((HB.out.cell (World.block_lt_of_cell? w _ hw535_2)).trans hw535_2), ((HB.out.cell (World.block_lt_of_cell? w _ hw535_3)).trans hw535_3), ((HB.out.cell (World.block_lt_of_cell? w _ hw535_4)).trans hw535_4), ((HB.out.cell (World.block_lt_of_cell? w _ hw535_5)).trans hw535_5), ((HB.out.cell (World.block_lt_of_cell? w _ hw535_6)).trans hw535_6), ((HB.out.cell (World.block_lt_of_cell? w _ hw535_7)).trans hw535_7)⟩ (fun hHeld => ?_); refine with_tabW endonymref6_Same.tab6 endonymref6_Same.bits6 (fun HT_ HW_ => ?_)
    generalize wr.drew = w9 at HB HR534_4 HR535_4 hx534_0 hx534_1 hx534_2 hx534_3 hx534_4 hx534_5 hx534_6 hx534_7 hx535_0 hx535_1 hx535_2 hx535_3 hx535_4 hx535_5 hx535_6 hx535_7 hHeld ⊢
    refine sqP 0 (some 17) (bm 10 1) ?_
    refine sqP 1 (some 18) (bm 10 3) ?_
    refine sqP 2 (some 19) (bm 10 7) ?_
    refine sqP 4 (some 21) (bm 10 23) ?_
    refine sqP 5 (some 22) (bm 10 55) ?_
    refine sqP 6 (some 23) (bm 10 119) ?_
    refine sqT 3 (some 20) (bm 10 127) ?_
    refine sqT 7 (some 24) (bm 10 255) ?_
    refine sqI 8 (some 25) (bm 10 511) (fun K hK => ?_)
    refine goes_ Tryz.func66 (by kernel_rfl) rfl #[.agg #[.int .i64 ((rd_T25 l0 x5_1).f0), .int .i64 ((rd_T25 l0 x5_1).f1), .int .i64 ((rd_T25 l0 x5_1).f2), .int .i64 ((rd_T25 l0 x5_1).f3), .slice A534_4 ((rd_T25 l0 x5_1).f4).length c534_4, .string ((rd_T25 l0 x5_1).f5), .string ((rd_T25 l0 x5_1).f6), .float .f64 ((rd_T25 l0 x5_1).f7)], .agg #[.int .i64 ((rd_T25 l1 x5_1).f0), .int .i64 ((rd_T25 l1 x5_1).f1), .int .i64 ((rd_T25 l1 x5_1).f2), .int .i64 ((rd_T25 l1 x5_1).f3), .slice A535_4 ((rd_T25 l1 x5_1).f4).length c535_4, .string ((rd_T25 l1 x5_1).f5), .string ((rd_T25 l1 x5_1).f6), .float .f64 ((rd_T25 l1 x5_1).f7)]] (by rfl) rfl rfl sqA ?_
    with_reducible refine (endonymref6_SameRecord.calls k1 ((rd_T25 l0 x5_1).f0) ((rd_T25 l0 x5_1).f1) ((rd_T25 l0 x5_1).f2) ((rd_T25 l0 x5_1).f3) _ _ ((rd_T25 l0 x5_1).f4) ((rd_T25 l0 x5_1).f5) ((rd_T25 l0 x5_1).f6) ((rd_T25 l0 x5_1).f7) ((rd_T25 l1 x5_1).f0) ((rd_T25 l1 x5_1).f1) ((rd_T25 l1 x5_1).f2) ((rd_T25 l1 x5_1).f3) _ _ ((rd_T25 l1 x5_1).f4) ((rd_T25 l1 x5_1).f5) ((rd_T25 l1 x5_1).f6) ((rd_T25 l1 x5_1).f7) true _ ?side1 ?side2 ?side3 ?side4 A7.out).mono ?_
    (case side1 => repeat (first | exact (Kd.C_below HR534_4.out HB.out) | (with_reducible refine Kd.C_alloc ?_ _) | (with_reducible refine Kd.C_drewN ?_ _) | (with_reducible refine Kd.C_drew ?_)))
    (case side2 => exact HC534_4.out)
    (case side3 => repeat (first | exact (Kd.C_below HR535_4.out HB.out) | (with_reducible refine Kd.C_alloc ?_ _) | (with_reducible refine Kd.C_drewN ?_ _) | (with_reducible refine Kd.C_drew ?_)))
    (case side4 => exact HC535_4.out)
    rintro e w10 ⟨rfl, hb⟩
    refine ⟨_, rfl, ?_⟩
    have n0_ := Aside0.mk (below_step sqB hb)
    clear HB
    have HB := n0_
    clear n0_
    (try clear hb)
    (try clear hb2)
    (try clear hk)
    (try clear hi)
    refine hK.out _ _ ⟨((HB.out.cell (World.block_lt_of_cell? w _ hw534_0)).trans hw534_0), ((HB.out.cell (World.block_lt_of_cell? w _ hw534_1)).trans hw534_1), ((HB.out.cell (World.block_lt_of_cell? w _ hw534_2)).trans hw534_2), ((HB.out.cell (World.block_lt_of_cell? w _ hw534_3)).trans hw534_3), ((HB.out.cell (World.block_lt_of_cell? w _ hw534_4)).trans hw534_4), ((HB.out.cell (World.block_lt_of_cell? w _ hw534_5)).trans hw534_5), ((HB.out.cell (World.block_lt_of_cell? w _ hw534_6)).trans hw534_6), ((HB.out.cell (World.block_lt_of_cell? w _ hw534_7)).trans hw534_7), ((HB.out.cell (World.block_lt_of_cell? w _ hw535_0)).trans hw535_0), ((HB.out.cell (World.block_lt_of_cell? w _ hw535_1)).trans hw535_1), ((HB.out.cell (World.block_lt_of_cell? w _ hw535_2)).trans hw535_2), ((HB.out.cell (World.block_lt_of_cell? w _ hw535_3)).trans hw535_3), ((HB.out.cell (World.block_lt_of_cell? w _ hw535_4)).trans hw535_4), ((HB.out.cell (World.block_lt_of_cell? w _ hw535_5)).trans hw535_5), ((HB.out.cell (World.block_lt_of_cell? w _ hw535_6)).trans hw535_6), ((HB.out.cell (World.block_lt_of_cell? w _ hw535_7)).trans hw535_7)⟩ (fun hHeld => ?_)
    clear hK K
    refine sqN 25 ?_
    refine sqP 9 (some 26) (bm 10 1023) ?_
    refine done_ (done_of HT_.out (by kernel_rfl)) ?_
    try go_wp2
    go_roundg k1
    case measure => have := HK1.out; omega
    case rel => exact ⟨(wrap64 (x5_1 + 1)), sqE, H', ⟨by have := HK1.out; omega⟩, ⟨sqB⟩⟩
   replace c8 := Bool.eq_false_iff.mpr c8
   subst c8
   have H1 : (some false) = some r := by rw [if_neg (show ¬ (false = true) by decide)] at H; exact H
   clear H
   have H := H1
   clear H1
   obtain rfl := Option.some.inj H
   try go_wp2
   have n0_ := Aside0.mk (below_drew1 HB.out)
   clear HB
   have HB := n0_
   clear n0_
   have p534 : 0 ≤ (x5_1 : Int) := sqD
   have q534 : x5_1 < (l0.length : Int) := sqD
   obtain ⟨ad534, A534_4, c534_4, e534, hx534_0, hx534_1, hx534_2, hx534_3, hx534_4, hx534_5, hx534_6, hx534_7, hl534_4, hi534_4⟩ := at_T25 HR0.out x5_1 p534 q534
   have hw534_7 := hx534_7
   have hw534_6 := hx534_6
   have hw534_5 := hx534_5
   have hw534_4 := hx534_4
   have hw534_3 := hx534_3
   have hw534_2 := hx534_2
   have hw534_1 := hx534_1
   have hw534_0 := hx534_0
   cases e534
   replace hx534_0 := (HB.out.cell (World.block_lt_of_cell? w _ hx534_0)).trans hx534_0
   replace hx534_1 := (HB.out.cell (World.block_lt_of_cell? w _ hx534_1)).trans hx534_1
   replace hx534_2 := (HB.out.cell (World.block_lt_of_cell? w _ hx534_2)).trans hx534_2
   replace hx534_3 := (HB.out.cell (World.block_lt_of_cell? w _ hx534_3)).trans hx534_3
   replace hx534_4 := (HB.out.cell (World.block_lt_of_cell? w _ hx534_4)).trans hx534_4
   replace hx534_5 := (HB.out.cell (World.block_lt_of_cell? w _ hx534_5)).trans hx534_5
   replace hx534_6 := (HB.out.cell (World.block_lt_of_cell? w _ hx534_6)).trans hx534_6
   replace hx534_7 := (HB.out.cell (World.block_lt_of_cell? w _ hx534_7)).trans hx534_7
   have HR534_4 := Aside0.mk hi534_4
   have HC534_4 := Aside0.mk hl534_4
   clear hi534_4 hl534_4
   replace p534 := eq_true p534
   replace q534 := eq_true q534
   have p535 : 0 ≤ (x5_1 : Int) := sqD
   have q535 : x5_1 < (l1.length : Int) := sqD
   obtain ⟨ad535, A535_4, c535_4, e535, hx535_0, hx535_1, hx535_2, hx535_3, hx535_4, hx535_5, hx535_6, hx535_7, hl535_4, hi535_4⟩ := at_T25 HR1.out x5_1 p535 q535
   have hw535_7 := hx535_7
   have hw535_6 := hx535_6
   have hw535_5 := hx535_5
   have hw535_4 := hx535_4
   have hw535_3 := hx535_3
   have hw535_2 := hx535_2
   have hw535_1 := hx535_1
   have hw535_0 := hx535_0
   cases e535
   replace hx535_0 := (HB.out.cell (World.block_lt_of_cell? w _ hx535_0)).trans hx535_0
   replace hx535_1 := (HB.out.cell (World.block_lt_of_cell? w _ hx535_1)).trans hx535_1
   replace hx535_2 := (HB.out.cell (World.block_lt_of_cell? w _ hx535_2)).trans hx535_2
   replace hx535_3 := (HB.out.cell (World.block_lt_of_cell? w _ hx535_3)).trans hx535_3
   replace hx535_4 := (HB.out.cell (World.block_lt_of_cell? w _ hx535_4)).trans hx535_4
   replace hx535_5 := (HB.out.cell (World.block_lt_of_cell? w _ hx535_5)).trans hx535_5
   replace hx535_6 := (HB.out.cell (World.block_lt_of_cell? w _ hx535_6)).trans hx535_6
   replace hx535_7 := (HB.out.cell (World.block_lt_of_cell? w _ hx535_7)).trans hx535_7
   have HR535_4 := Aside0.mk hi535_4
   have HC535_4 := Aside0.mk hl535_4
   clear hi535_4 hl535_4
   replace p535 := eq_true p535
   replace q535 := eq_true q535
   refine start_ (n := 10) (S := fun w' => w'.cell? (ad534.add ((x5_1).toNat * 8)) = some (.int .i64 ((rd_T25 l0 x5_1).f0)) ∧ w'.cell? ⟨(ad534.add ((x5_1).toNat * 8)).block, (ad534.add ((x5_1).toNat * 8)).off + 1, none⟩ = some (.int .i64 ((rd_T25 l0 x5_1).f1)) ∧ w'.cell? ⟨(ad534.add ((x5_1).toNat * 8)).block, (ad534.add ((x5_1).toNat * 8)).off + 2, none⟩ = some (.int .i64 ((rd_T25 l0 x5_1).f2)) ∧ w'.cell? ⟨(ad534.add ((x5_1).toNat * 8)).block, (ad534.add ((x5_1).toNat * 8)).off + 3, none⟩ = some (.int .i64 ((rd_T25 l0 x5_1).f3)) ∧ w'.cell? ⟨(ad534.add ((x5_1).toNat * 8)).block, (ad534.add ((x5_1).toNat * 8)).off + 4, none⟩ = some (.slice A534_4 ((rd_T25 l0 x5_1).f4).length c534_4) ∧ w'.cell? ⟨(ad534.add ((x5_1).toNat * 8)).block, (ad534.add ((x5_1).toNat * 8)).off + 5, none⟩ = some (.string ((rd_T25 l0 x5_1).f5)) ∧ w'.cell? ⟨(ad534.add ((x5_1).toNat * 8)).block, (ad534.add ((x5_1).toNat * 8)).off + 6, none⟩ = some (.string ((rd_T25 l0 x5_1).f6)) ∧ w'.cell? ⟨(ad534.add ((x5_1).toNat * 8)).block, (ad534.add ((x5_1).toNat * 8)).off + 7, none⟩ = some (.float .f64 ((rd_T25 l0 x5_1).f7)) ∧ w'.cell? (ad535.add ((x5_1).toNat * 8)) = some (.int .i64 ((rd_T25 l1 x5_1).f0)) ∧ w'.cell? ⟨(ad535.add ((x5_1).toNat * 8)).block, (ad535.add ((x5_1).toNat * 8)).off + 1, none⟩ = some (.int .i64 ((rd_T25 l1 x5_1).f1)) ∧ w'.cell? ⟨(ad535.add ((x5_1).toNat * 8)).block, (ad535.add ((x5_1).toNat * 8)).off + 2, none⟩ = some (.int .i64 ((rd_T25 l1 x5_1).f2)) ∧ w'.cell? ⟨(ad535.add ((x5_1).toNat * 8)).block, (ad535.add ((x5_1).toNat * 8)).off + 3, none⟩ = some (.int .i64 ((rd_T25 l1 x5_1).f3)) ∧ w'.cell? ⟨(ad535.add ((x5_1).toNat * 8)).block, (ad535.add ((x5_1).toNat * 8)).off + 4, none⟩ = some (.slice A535_4 ((rd_T25 l1 x5_1).f4).length c535_4) ∧ w'.cell? ⟨(ad535.add ((x5_1).toNat * 8)).block, (ad535.add ((x5_1).toNat * 8)).off + 5, none⟩ = some (.string ((rd_T25 l1 x5_1).f5)) ∧ w'.cell? ⟨(ad535.add ((x5_1).toNat * 8)).block, (ad535.add ((x5_1).toNat * 8)).off + 6, none⟩ = some (.string ((rd_T25 l1 x5_1).f6)) ∧ w'.cell? ⟨(ad535.add ((x5_1).toNat * 8)).block, (ad535.add ((x5_1).toNat * 8)).off + 7, none⟩ = some (.float .f64 ((rd_T25 l1 x5_1).f7))) (ds := []) (bm 10 0) (by kernel_rfl) rfl rfl ⟨((HB.out.cell (World.block_lt_of_cell? w _ hw534_0)).trans hw534_0), ((HB.out.cell (World.block_lt_of_cell? w _ hw534_1)).trans hw534_1), ((HB.out.cell (World.block_lt_of_cell? w _ hw534_2)).trans hw534_2), ((HB.out.cell (World.block_lt_of_cell? w _ hw534_3)).trans hw534_3), ((HB.out.cell (World.block_lt_of_cell? w _ hw534_4)).trans hw534_4), ((HB.out.cell (World.block_lt_of_cell? w _ hw534_5)).trans hw534_5), ((HB.out.cell (World.block_lt_of_cell? w _ hw534_6)).trans hw534_6), ((HB.out.cell (World.block_lt_of_cell? w _ hw534_7)).trans hw534_7), ((HB.out.cell (World.block_lt_of_cell? w _ hw535_0)).trans hw535_0), ((HB.out.cell (World.block_lt_of_cell? w _ hw535_1)).trans hw535_1), ((HB.out.cell (World.block_lt_of_cell? w _ hw535_2)).trans hw535_2), ((HB.out.cell (World.block_lt_of_cell? w _ hw535_3)).trans hw535_3), ((HB.out.cell (World.block_lt_of_cell? w _ hw535_4)).trans hw535_4), ((HB.out.cell (World.block_lt_of_cell? w _ hw535_5)).trans hw535_5), ((HB.out.cell (World.block_lt_of_cell? w _ hw535_6)).trans hw535_6), ((HB.out.cell (World.block_lt_of_cell? w _ hw535_7)).trans hw535_7)⟩ (fun hHeld => ?_); refine with_tabW endonymref6_Same.tab6 endonymref6_Same.bits6 (fun HT_ HW_ => ?_)
   generalize wr.drew = w11 at HB HR534_4 HR535_4 hx534_0 hx534_1 hx534_2 hx534_3 hx534_4 hx534_5 hx534_6 hx534_7 hx535_0 hx535_1 hx535_2 hx535_3 hx535_4 hx535_5 hx535_6 hx535_7 hHeld ⊢
   refine sqP 0 (some 17) (bm 10 1) ?_
   refine sqP 1 (some 18) (bm 10 3) ?_
   refine sqP 2 (some 19) (bm 10 7) ?_
   refine sqP 4 (some 21) (bm 10 23) ?_
   refine sqP 5 (some 22) (bm 10 55) ?_
   refine sqP 6 (some 23) (bm 10 119) ?_
   refine sqT 3 (some 20) (bm 10 127) ?_
   refine sqT 7 (some 24) (bm 10 255) ?_
   refine sqI 8 (some 25) (bm 10 511) (fun K hK => ?_)
   refine goes_ Tryz.func66 (by kernel_rfl) rfl #[.agg #[.int .i64 ((rd_T25 l0 x5_1).f0), .int .i64 ((rd_T25 l0 x5_1).f1), .int .i64 ((rd_T25 l0 x5_1).f2), .int .i64 ((rd_T25 l0 x5_1).f3), .slice A534_4 ((rd_T25 l0 x5_1).f4).length c534_4, .string ((rd_T25 l0 x5_1).f5), .string ((rd_T25 l0 x5_1).f6), .float .f64 ((rd_T25 l0 x5_1).f7)], .agg #[.int .i64 ((rd_T25 l1 x5_1).f0), .int .i64 ((rd_T25 l1 x5_1).f1), .int .i64 ((rd_T25 l1 x5_1).f2), .int .i64 ((rd_T25 l1 x5_1).f3), .slice A535_4 ((rd_T25 l1 x5_1).f4).length c535_4, .string ((rd_T25 l1 x5_1).f5), .string ((rd_T25 l1 x5_1).f6), .float .f64 ((rd_T25 l1 x5_1).f7)]] (by rfl) rfl rfl sqA ?_
   with_reducible refine (endonymref6_SameRecord.calls k1 ((rd_T25 l0 x5_1).f0) ((rd_T25 l0 x5_1).f1) ((rd_T25 l0 x5_1).f2) ((rd_T25 l0 x5_1).f3) _ _ ((rd_T25 l0 x5_1).f4) ((rd_T25 l0 x5_1).f5) ((rd_T25 l0 x5_1).f6) ((rd_T25 l0 x5_1).f7) ((rd_T25 l1 x5_1).f0) ((rd_T25 l1 x5_1).f1) ((rd_T25 l1 x5_1).f2) ((rd_T25 l1 x5_1).f3) _ _ ((rd_T25 l1 x5_1).f4) ((rd_T25 l1 x5_1).f5) ((rd_T25 l1 x5_1).f6) ((rd_T25 l1 x5_1).f7) false _ ?side1 ?side2 ?side3 ?side4 A7.out).mono ?_
   (case side1 => repeat (first | exact (Kd.C_below HR534_4.out HB.out) | (with_reducible refine Kd.C_alloc ?_ _) | (with_reducible refine Kd.C_drewN ?_ _) | (with_reducible refine Kd.C_drew ?_)))
   (case side2 => exact HC534_4.out)
   (case side3 => repeat (first | exact (Kd.C_below HR535_4.out HB.out) | (with_reducible refine Kd.C_alloc ?_ _) | (with_reducible refine Kd.C_drewN ?_ _) | (with_reducible refine Kd.C_drew ?_)))
   (case side4 => exact HC535_4.out)
   rintro e w12 ⟨rfl, hb⟩
   refine ⟨_, rfl, ?_⟩
   have n0_ := Aside0.mk (below_step sqB hb)
   clear HB
   have HB := n0_
   clear n0_
   (try clear hb)
   (try clear hb2)
   (try clear hk)
   (try clear hi)
   refine hK.out _ _ ⟨((HB.out.cell (World.block_lt_of_cell? w _ hw534_0)).trans hw534_0), ((HB.out.cell (World.block_lt_of_cell? w _ hw534_1)).trans hw534_1), ((HB.out.cell (World.block_lt_of_cell? w _ hw534_2)).trans hw534_2), ((HB.out.cell (World.block_lt_of_cell? w _ hw534_3)).trans hw534_3), ((HB.out.cell (World.block_lt_of_cell? w _ hw534_4)).trans hw534_4), ((HB.out.cell (World.block_lt_of_cell? w _ hw534_5)).trans hw534_5), ((HB.out.cell (World.block_lt_of_cell? w _ hw534_6)).trans hw534_6), ((HB.out.cell (World.block_lt_of_cell? w _ hw534_7)).trans hw534_7), ((HB.out.cell (World.block_lt_of_cell? w _ hw535_0)).trans hw535_0), ((HB.out.cell (World.block_lt_of_cell? w _ hw535_1)).trans hw535_1), ((HB.out.cell (World.block_lt_of_cell? w _ hw535_2)).trans hw535_2), ((HB.out.cell (World.block_lt_of_cell? w _ hw535_3)).trans hw535_3), ((HB.out.cell (World.block_lt_of_cell? w _ hw535_4)).trans hw535_4), ((HB.out.cell (World.block_lt_of_cell? w _ hw535_5)).trans hw535_5), ((HB.out.cell (World.block_lt_of_cell? w _ hw535_6)).trans hw535_6), ((HB.out.cell (World.block_lt_of_cell? w _ hw535_7)).trans hw535_7)⟩ (fun hHeld => ?_)
   clear hK K
   refine sqN 25 ?_
   refine sqP 9 (some 26) (bm 10 1023) ?_
   refine done_ (done_of HT_.out (by kernel_rfl)) ?_
   try go_wp2
   go_ret
   exact ⟨sqE', sqB⟩
end Go.Proofs.YtnoppeocbfapdaaGreatDoor.T
