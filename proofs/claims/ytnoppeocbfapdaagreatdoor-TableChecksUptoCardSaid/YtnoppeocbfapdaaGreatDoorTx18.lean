import Derived.Test.YtnoppeocbfapdaaGreatDoorTx0
import Derived.Test.YtnoppeocbfapdaaGreatDoorTx17
namespace Go.Proofs.YtnoppeocbfapdaaGreatDoor.T
open Go.RowKit Go.Proofs.YtnoppeocbfapdaaGreatDoorW.PrintWords Go.Proofs.YtnoppeocbfapdaaGreatDoorW.PrintLast Go.Proofs.YtnoppeocbfapdaaGreatDoorW.PrintMore
set_option maxHeartbeats 8000000
set_option maxRecDepth 100000
attribute [local go_sem] max2_int min2_int max_two min_two max_three min_three max_four min_four
set_option linter.unusedVariables false
set_option linter.unusedSimpArgs false
def endonymref6_Same.l0 : Nat → List (S25) → List (S25) → Int → Option (Bool)
 | 0, _, _, _ => none
 | k + 1, x0, x1, x5 => if x5 < (x0.length : Int) then (if 0 ≤ x5 then (if x5 < (x1.length : Int) then ((endonymref6_SameRecord.f k ((rd_T25 x0 x5).f0) ((rd_T25 x0 x5).f1) ((rd_T25 x0 x5).f2) ((rd_T25 x0 x5).f3) ((rd_T25 x0 x5).f4) ((rd_T25 x0 x5).f5) ((rd_T25 x0 x5).f6) ((rd_T25 x0 x5).f7) ((rd_T25 x1 x5).f0) ((rd_T25 x1 x5).f1) ((rd_T25 x1 x5).f2) ((rd_T25 x1 x5).f3) ((rd_T25 x1 x5).f4) ((rd_T25 x1 x5).f5) ((rd_T25 x1 x5).f6) ((rd_T25 x1 x5).f7)).bind fun t547 => (if t547 = true then (endonymref6_Same.l0 k x0 x1 (wrap64 (x5 + 1))) else (some false))) else (none)) else (none)) else (some true)
def endonymref6_Same.f (k : Nat) (l0 : List (S25)) (l1 : List (S25)) : Option (Bool) := if (l0.length : Int) = (l1.length : Int) then (endonymref6_Same.l0 k l0 l1 0) else (some false)
theorem endonymref6_Same.mono_l : ∀ k, (∀ y0 y1 y2, LeO (endonymref6_Same.l0 k y0 y1 y2) (endonymref6_Same.l0 (k + 1) y0 y1 y2))
 | 0 => fun _ _ _ r h => by simp [endonymref6_Same.l0] at h
 | k + 1 => by
  have ih0 := endonymref6_Same.mono_l k
  intro y0 y1 y2
  unfold endonymref6_Same.l0
  repeat' first | (with_reducible first | apply ih0 | apply endonymref6_SameRecord.mono | apply LeO.refl | apply LeO.none | refine LeO.ite ?_ ?_ | refine LeO.bind ?_ (fun _ => ?_)) | apply LeO.none | refine LeO.ite ?_ ?_ | refine LeO.bind ?_ (fun _ => ?_)
theorem endonymref6_Same.mono : ∀ a0 a1 k, LeO (endonymref6_Same.f k a0 a1) (endonymref6_Same.f (k + 1) a0 a1) := by
 intro a0 a1 k
 have ih0 := endonymref6_Same.mono_l k
 unfold endonymref6_Same.f
 repeat' first | (with_reducible first | apply ih0 | apply endonymref6_SameRecord.mono | apply LeO.refl | apply LeO.none | refine LeO.ite ?_ ?_ | refine LeO.bind ?_ (fun _ => ?_)) | apply LeO.none | refine LeO.ite ?_ ?_ | refine LeO.bind ?_ (fun _ => ?_)
def endonymref6_Same.T6 : Bool × List (List Nat × List Nat) := (true, [([], []), ([], []), ([0, 1], [0, 1]), ([2], [2]), ([], []), ([], []), ([4, 5], [4, 5]), ([6], [6]), ([3, 7], [3, 7]), ([8], [8])])
def endonymref6_Same.B6 : List Nat := [0, 0, 3, 7, 0, 0, 48, 112, 255, 511]
theorem endonymref6_Same.tab6 : rtab .any (opsOf Tryz.f26 6) = endonymref6_Same.T6 := by kernel_rfl
theorem endonymref6_Same.bits6 : waitsOk endonymref6_Same.T6.2 endonymref6_Same.B6 = true := by kernel_rfl
theorem endonymref6_Same.calls (k : Nat) (A0 : Option Addr) (c0 : Nat) (l0 : List (S25)) (A1 : Option Addr) (c1 : Nat) (l1 : List (S25)) (r : Bool) (w : World) (hr0 : Kd.C k25 w A0 l0.length l0) (hc0 : l0.length ≤ c0) (hr1 : Kd.C k25 w A1 l1.length l1) (hc1 : l1.length ≤ c1) (h : endonymref6_Same.f k l0 l1 = some r) :
  Calls Tryz.prog 26 #[.slice A0 l0.length c0, .slice A1 l1.length c1] w fun e w' => e = .returned (.bool r) ∧ Below w.heap.size w w' := by
 have hu25 := Tryz.underlying25
 have HR0 := Aside0.mk hr0
 have HC0 := Aside0.mk hc0
 clear hr0 hc0
 have HR1 := Aside0.mk hr1
 have HC1 := Aside0.mk hc1
 clear hr1 hc1
 have HB := Aside0.mk (Below.refl w.heap.size w)
 have H : (if (l0.length : Int) = (l1.length : Int) then (endonymref6_Same.l0 k l0 l1 0) else (some false)) = some r := h
 clear h
 by_cases c3 : (l0.length : Int) = (l1.length : Int)
 case neg =>
  rw [if_neg c3] at H
  have c3b0 := beq_eq_false_iff_ne.mpr c3
  have c3b1 := bne_iff_ne.mpr c3
  have c3b2 : (l0.length == l1.length) = false := by first | simpa using c3 | (simp at c3 ⊢; omega)
  obtain rfl := Option.some.inj H
  go_enter Tryz.func26, Tryz.ntmps26
  go_wp2
  go_ret
  exact ⟨sqE', sqB⟩
 rw [if_pos c3] at H
 have c3b0 := beq_iff_eq.mpr c3
 have c3b1 := bne_eq_false_iff_eq.mpr c3
 have c3b2 : (l0.length == l1.length) = true := by first | simpa using c3 | (simp at c3 ⊢; omega)
 clear c3
 have H' := Aside0.mk H
 clear H
 go_enter Tryz.func26, Tryz.ntmps26
 go_wp2
 go_loopg [5] k (fun kq v5 w' => ∃ (x5_1 : Int), v5 = .int .i64 x5_1 ∧ Aside0 (endonymref6_Same.l0 kq l0 l1 x5_1 = some r) ∧ Aside0 (kq ≤ k) ∧ Aside0 (Below w.heap.size w w'))
 case atStart => exact ⟨(0), sqE, H', ⟨Nat.le_refl _⟩, ⟨sqB⟩⟩
 case round =>
  clear H'
  try clear c1
  try clear c3
  try clear c3b0
  try clear c3b1
  try clear c3b2
  obtain ⟨x5_1, rfl, HA, HK1, HB⟩ := hrel
  cases gk with
  | zero => exact absurd HA.out (by simp [endonymref6_Same.l0])
  | succ k1 =>
   have H := HA.out
   clear HA
   simp only [endonymref6_Same.l0] at H
   by_cases c4 : x5_1 < (l0.length : Int)
   case neg =>
    rw [if_neg c4] at H
    have c4b0 := decide_eq_false c4
    clear c4
    obtain rfl := Option.some.inj H
    go_wp2
    go_ret
    exact ⟨sqE', sqB⟩
   rw [if_pos c4] at H
   have c4b0 := decide_eq_true c4
   clear c4
   by_cases c5 : 0 ≤ x5_1
   case neg => rw [if_neg c5] at H; exact absurd H (by simp)
   rw [if_pos c5] at H
   have c5b0 := decide_eq_true c5
   clear c5
   by_cases c6 : x5_1 < (l1.length : Int)
   case neg => rw [if_neg c6] at H; exact absurd H (by simp)
   rw [if_pos c6] at H
   have c6b0 := decide_eq_true c6
   clear c6
   obtain ⟨t547, A7, H⟩ := sqO H
   try dsimp only at H
   by_cases c8 : t547 = true
   ·subst c8
    rw [if_pos rfl] at H
    have H' := Aside0.mk H
    clear H
    try go_wp2
    have n0_ := Aside0.mk (below_drew1 HB.out)
    clear HB
    have HB := n0_
    clear n0_
    have p545 : 0 ≤ (x5_1 : Int) := sqD
    have q545 : x5_1 < (l0.length : Int) := sqD
    obtain ⟨ad545, A545_4, c545_4, e545, hx545_0, hx545_1, hx545_2, hx545_3, hx545_4, hx545_5, hx545_6, hx545_7, hl545_4, hi545_4⟩ := at_T25 HR0.out x5_1 p545 q545
    have hw545_7 := hx545_7
    have hw545_6 := hx545_6
    have hw545_5 := hx545_5
    have hw545_4 := hx545_4
    have hw545_3 := hx545_3
    have hw545_2 := hx545_2
    have hw545_1 := hx545_1
    have hw545_0 := hx545_0
    cases e545
    replace hx545_0 := (HB.out.cell (World.block_lt_of_cell? w _ hx545_0)).trans hx545_0
    replace hx545_1 := (HB.out.cell (World.block_lt_of_cell? w _ hx545_1)).trans hx545_1
    replace hx545_2 := (HB.out.cell (World.block_lt_of_cell? w _ hx545_2)).trans hx545_2
    replace hx545_3 := (HB.out.cell (World.block_lt_of_cell? w _ hx545_3)).trans hx545_3
    replace hx545_4 := (HB.out.cell (World.block_lt_of_cell? w _ hx545_4)).trans hx545_4
    replace hx545_5 := (HB.out.cell (World.block_lt_of_cell? w _ hx545_5)).trans hx545_5
    replace hx545_6 := (HB.out.cell (World.block_lt_of_cell? w _ hx545_6)).trans hx545_6
    replace hx545_7 := (HB.out.cell (World.block_lt_of_cell? w _ hx545_7)).trans hx545_7
    have HR545_4 := Aside0.mk hi545_4
    have HC545_4 := Aside0.mk hl545_4
    clear hi545_4 hl545_4
    replace p545 := eq_true p545
    replace q545 := eq_true q545
    have p546 : 0 ≤ (x5_1 : Int) := sqD
    have q546 : x5_1 < (l1.length : Int) := sqD
    obtain ⟨ad546, A546_4, c546_4, e546, hx546_0, hx546_1, hx546_2, hx546_3, hx546_4, hx546_5, hx546_6, hx546_7, hl546_4, hi546_4⟩ := at_T25 HR1.out x5_1 p546 q546
    have hw546_7 := hx546_7
    have hw546_6 := hx546_6
    have hw546_5 := hx546_5
    have hw546_4 := hx546_4
    have hw546_3 := hx546_3
    have hw546_2 := hx546_2
    have hw546_1 := hx546_1
    have hw546_0 := hx546_0
    cases e546
    replace hx546_0 := (HB.out.cell (World.block_lt_of_cell? w _ hx546_0)).trans hx546_0
    replace hx546_1 := (HB.out.cell (World.block_lt_of_cell? w _ hx546_1)).trans hx546_1
    replace hx546_2 := (HB.out.cell (World.block_lt_of_cell? w _ hx546_2)).trans hx546_2
    replace hx546_3 := (HB.out.cell (World.block_lt_of_cell? w _ hx546_3)).trans hx546_3
    replace hx546_4 := (HB.out.cell (World.block_lt_of_cell? w _ hx546_4)).trans hx546_4
    replace hx546_5 := (HB.out.cell (World.block_lt_of_cell? w _ hx546_5)).trans hx546_5
    replace hx546_6 := (HB.out.cell (World.block_lt_of_cell? w _ hx546_6)).trans hx546_6
    replace hx546_7 := (HB.out.cell (World.block_lt_of_cell? w _ hx546_7)).trans hx546_7
    have HR546_4 := Aside0.mk hi546_4
    have HC546_4 := Aside0.mk hl546_4
    clear hi546_4 hl546_4
    replace p546 := eq_true p546
    replace q546 := eq_true q546
    refine start_ (n := 10) (S := fun w' => w'.cell? (ad545.add ((x5_1).toNat * 8)) = some (.int .i64 ((rd_T25 l0 x5_1).f0)) ∧ w'.cell? ⟨(ad545.add ((x5_1).toNat * 8)).block, (ad545.add ((x5_1).toNat * 8)).off + 1, none⟩ = some (.int .i64 ((rd_T25 l0 x5_1).f1)) ∧ w'.cell? ⟨(ad545.add ((x5_1).toNat * 8)).block, (ad545.add ((x5_1).toNat * 8)).off + 2, none⟩ = some (.int .i64 ((rd_T25 l0 x5_1).f2)) ∧ w'.cell? ⟨(ad545.add ((x5_1).toNat * 8)).block, (ad545.add ((x5_1).toNat * 8)).off + 3, none⟩ = some (.int .i64 ((rd_T25 l0 x5_1).f3)) ∧ w'.cell? ⟨(ad545.add ((x5_1).toNat * 8)).block, (ad545.add ((x5_1).toNat * 8)).off + 4, none⟩ = some (.slice A545_4 ((rd_T25 l0 x5_1).f4).length c545_4) ∧ w'.cell? ⟨(ad545.add ((x5_1).toNat * 8)).block, (ad545.add ((x5_1).toNat * 8)).off + 5, none⟩ = some (.string ((rd_T25 l0 x5_1).f5)) ∧ w'.cell? ⟨(ad545.add ((x5_1).toNat * 8)).block, (ad545.add ((x5_1).toNat * 8)).off + 6, none⟩ = some (.string ((rd_T25 l0 x5_1).f6)) ∧ w'.cell? ⟨(ad545.add ((x5_1).toNat * 8)).block, (ad545.add ((x5_1).toNat * 8)).off + 7, none⟩ = some (.float .f64 ((rd_T25 l0 x5_1).f7)) ∧ w'.cell? (ad546.add ((x5_1).toNat * 8)) = some (.int .i64 ((rd_T25 l1 x5_1).f0)) ∧ w'.cell? ⟨(ad546.add ((x5_1).toNat * 8)).block, (ad546.add ((x5_1).toNat * 8)).off + 1, none⟩ = some (.int .i64 ((rd_T25 l1 x5_1).f1)) ∧ w'.cell? ⟨(ad546.add ((x5_1).toNat * 8)).block, (ad546.add ((x5_1).toNat * 8)).off + 2, none⟩ = some (.int .i64 ((rd_T25 l1 x5_1).f2)) ∧ w'.cell? ⟨(ad546.add ((x5_1).toNat * 8)).block, (ad546.add ((x5_1).toNat * 8)).off + 3, none⟩ = some (.int .i64 ((rd_T25 l1 x5_1).f3)) ∧ w'.cell? ⟨(ad546.add ((x5_1).toNat * 8)).block, (ad546.add ((x5_1).toNat * 8)).off + 4, none⟩ = some (.slice A546_4 ((rd_T25 l1 x5_1).f4).length c546_4) ∧ w'.cell? ⟨(ad546.add ((x5_1).toNat * 8)).block, (ad546.add ((x5_1).toNat * 8)).off + 5, none⟩ = some (.string ((rd_T25 l1 x5_1).f5)) ∧ w'.cell? ⟨(ad546.add ((x5_1).toNat * 8)).block, (ad546.add ((x5_1).toNat * 8)).off + 6, none⟩ = some (.string ((rd_T25 l1 x5_1).f6)) ∧ w'.cell? ⟨(ad546.add ((x5_1).toNat * 8)).block, (ad546.add ((x5_1).toNat * 8)).off + 7, none⟩ = some (.float .f64 ((rd_T25 l1 x5_1).f7))) (ds := []) (bm 10 0) (by kernel_rfl) rfl rfl ⟨((HB.out.cell (World.block_lt_of_cell? w _ hw545_0)).trans hw545_0), ((HB.out.cell (World.block_lt_of_cell? w _ hw545_1)).trans hw545_1), ((HB.out.cell (World.block_lt_of_cell? w _ hw545_2)).trans hw545_2), ((HB.out.cell (World.block_lt_of_cell? w _ hw545_3)).trans hw545_3), ((HB.out.cell (World.block_lt_of_cell? w _ hw545_4)).trans hw545_4), ((HB.out.cell (World.block_lt_of_cell? w _ hw545_5)).trans hw545_5), ((HB.out.cell (World.block_lt_of_cell? w _ hw545_6)).trans hw545_6), ((HB.out.cell (World.block_lt_of_cell? w _ hw545_7)).trans hw545_7), ((HB.out.cell (World.block_lt_of_cell? w _ hw546_0)).trans hw546_0), ((HB.out.cell (World.block_lt_of_cell? w _ hw546_1)).trans hw546_1), ((HB.out.cell (World.block_lt_of_cell? w _ hw546_2)).trans hw546_2), ((HB.out.cell (World.block_lt_of_cell? w _ hw546_3)).trans hw546_3), ((HB.out.cell (World.block_lt_of_cell? w _ hw546_4)).trans hw546_4), ((HB.out.cell (World.block_lt_of_cell? w _ hw546_5)).trans hw546_5), ((HB.out.cell (World.block_lt_of_cell? w _ hw546_6)).trans hw546_6), ((HB.out.cell (World.block_lt_of_cell? w _ hw546_7)).trans hw546_7)⟩ (fun hHeld => ?_); refine with_tabW endonymref6_Same.tab6 endonymref6_Same.bits6 (fun HT_ HW_ => ?_)
    generalize wr.drew = w9 at HB HR545_4 HR546_4 hx545_0 hx545_1 hx545_2 hx545_3 hx545_4 hx545_5 hx545_6 hx545_7 hx546_0 hx546_1 hx546_2 hx546_3 hx546_4 hx546_5 hx546_6 hx546_7 hHeld ⊢
    refine sqP 0 (some 17) (bm 10 1) ?_
    refine sqP 1 (some 18) (bm 10 3) ?_
    refine sqP 2 (some 19) (bm 10 7) ?_
    refine sqP 4 (some 21) (bm 10 23) ?_
    refine sqP 5 (some 22) (bm 10 55) ?_
    refine sqP 6 (some 23) (bm 10 119) ?_
    refine sqT 3 (some 20) (bm 10 127) ?_
    refine sqT 7 (some 24) (bm 10 255) ?_
    refine sqI 8 (some 25) (bm 10 511) (fun K hK => ?_)
    refine goes_ Tryz.func66 (by kernel_rfl) rfl #[.agg #[.int .i64 ((rd_T25 l0 x5_1).f0), .int .i64 ((rd_T25 l0 x5_1).f1), .int .i64 ((rd_T25 l0 x5_1).f2), .int .i64 ((rd_T25 l0 x5_1).f3), .slice A545_4 ((rd_T25 l0 x5_1).f4).length c545_4, .string ((rd_T25 l0 x5_1).f5), .string ((rd_T25 l0 x5_1).f6), .float .f64 ((rd_T25 l0 x5_1).f7)], .agg #[.int .i64 ((rd_T25 l1 x5_1).f0), .int .i64 ((rd_T25 l1 x5_1).f1), .int .i64 ((rd_T25 l1 x5_1).f2), .int .i64 ((rd_T25 l1 x5_1).f3), .slice A546_4 ((rd_T25 l1 x5_1).f4).length c546_4, .string ((rd_T25 l1 x5_1).f5), .string ((rd_T25 l1 x5_1).f6), .float .f64 ((rd_T25 l1 x5_1).f7)]] (by rfl) rfl rfl sqA ?_
    with_reducible refine (endonymref6_SameRecord.calls k1 ((rd_T25 l0 x5_1).f0) ((rd_T25 l0 x5_1).f1) ((rd_T25 l0 x5_1).f2) ((rd_T25 l0 x5_1).f3) _ _ ((rd_T25 l0 x5_1).f4) ((rd_T25 l0 x5_1).f5) ((rd_T25 l0 x5_1).f6) ((rd_T25 l0 x5_1).f7) ((rd_T25 l1 x5_1).f0) ((rd_T25 l1 x5_1).f1) ((rd_T25 l1 x5_1).f2) ((rd_T25 l1 x5_1).f3) _ _ ((rd_T25 l1 x5_1).f4) ((rd_T25 l1 x5_1).f5) ((rd_T25 l1 x5_1).f6) ((rd_T25 l1 x5_1).f7) true _ ?side1 ?side2 ?side3 ?side4 A7.out).mono ?_
    (case side1 => exact sqC (Kd.C_below HR545_4.out HB.out))
    (case side2 => exact HC545_4.out)
    (case side3 => exact sqC (Kd.C_below HR546_4.out HB.out))
    (case side4 => exact HC546_4.out)
    rintro e w10 ⟨rfl, hb⟩
    refine ⟨_, rfl, ?_⟩
    have n0_ := Aside0.mk (below_step sqB hb)
    clear HB
    have HB := n0_
    clear n0_
    (try clear hb)
    (try clear hb2)
    (try clear hk)
    (try clear hi)
    refine hK.out _ _ ⟨((HB.out.cell (World.block_lt_of_cell? w _ hw545_0)).trans hw545_0), ((HB.out.cell (World.block_lt_of_cell? w _ hw545_1)).trans hw545_1), ((HB.out.cell (World.block_lt_of_cell? w _ hw545_2)).trans hw545_2), ((HB.out.cell (World.block_lt_of_cell? w _ hw545_3)).trans hw545_3), ((HB.out.cell (World.block_lt_of_cell? w _ hw545_4)).trans hw545_4), ((HB.out.cell (World.block_lt_of_cell? w _ hw545_5)).trans hw545_5), ((HB.out.cell (World.block_lt_of_cell? w _ hw545_6)).trans hw545_6), ((HB.out.cell (World.block_lt_of_cell? w _ hw545_7)).trans hw545_7), ((HB.out.cell (World.block_lt_of_cell? w _ hw546_0)).trans hw546_0), ((HB.out.cell (World.block_lt_of_cell? w _ hw546_1)).trans hw546_1), ((HB.out.cell (World.block_lt_of_cell? w _ hw546_2)).trans hw546_2), ((HB.out.cell (World.block_lt_of_cell? w _ hw546_3)).trans hw546_3), ((HB.out.cell (World.block_lt_of_cell? w _ hw546_4)).trans hw546_4), ((HB.out.cell (World.block_lt_of_cell? w _ hw546_5)).trans hw546_5), ((HB.out.cell (World.block_lt_of_cell? w _ hw546_6)).trans hw546_6), ((HB.out.cell (World.block_lt_of_cell? w _ hw546_7)).trans hw546_7)⟩ (fun hHeld => ?_)
    clear hK K
    refine sqN 25 ?_
    refine sqP 9 (some 26) (bm 10 1023) ?_
    refine done_ (done_of HT_.out (by kernel_rfl)) ?_
    try go_wp2
    go_roundg k1
    case measure => have := HK1.out; omega
    case rel => exact ⟨(wrap64 (x5_1 + 1)), sqE, H', ⟨by have := HK1.out; omega⟩, ⟨sqB⟩⟩
   replace c8 := Bool.eq_false_iff.mpr c8
   subst c8
   rw [if_neg (show ¬ (false = true) by decide)] at H
   obtain rfl := Option.some.inj H
   try go_wp2
   have n0_ := Aside0.mk (below_drew1 HB.out)
   clear HB
   have HB := n0_
   clear n0_
   have p545 : 0 ≤ (x5_1 : Int) := sqD
   have q545 : x5_1 < (l0.length : Int) := sqD
   obtain ⟨ad545, A545_4, c545_4, e545, hx545_0, hx545_1, hx545_2, hx545_3, hx545_4, hx545_5, hx545_6, hx545_7, hl545_4, hi545_4⟩ := at_T25 HR0.out x5_1 p545 q545
   have hw545_7 := hx545_7
   have hw545_6 := hx545_6
   have hw545_5 := hx545_5
   have hw545_4 := hx545_4
   have hw545_3 := hx545_3
   have hw545_2 := hx545_2
   have hw545_1 := hx545_1
   have hw545_0 := hx545_0
   cases e545
   replace hx545_0 := (HB.out.cell (World.block_lt_of_cell? w _ hx545_0)).trans hx545_0
   replace hx545_1 := (HB.out.cell (World.block_lt_of_cell? w _ hx545_1)).trans hx545_1
   replace hx545_2 := (HB.out.cell (World.block_lt_of_cell? w _ hx545_2)).trans hx545_2
   replace hx545_3 := (HB.out.cell (World.block_lt_of_cell? w _ hx545_3)).trans hx545_3
   replace hx545_4 := (HB.out.cell (World.block_lt_of_cell? w _ hx545_4)).trans hx545_4
   replace hx545_5 := (HB.out.cell (World.block_lt_of_cell? w _ hx545_5)).trans hx545_5
   replace hx545_6 := (HB.out.cell (World.block_lt_of_cell? w _ hx545_6)).trans hx545_6
   replace hx545_7 := (HB.out.cell (World.block_lt_of_cell? w _ hx545_7)).trans hx545_7
   have HR545_4 := Aside0.mk hi545_4
   have HC545_4 := Aside0.mk hl545_4
   clear hi545_4 hl545_4
   replace p545 := eq_true p545
   replace q545 := eq_true q545
   have p546 : 0 ≤ (x5_1 : Int) := sqD
   have q546 : x5_1 < (l1.length : Int) := sqD
   obtain ⟨ad546, A546_4, c546_4, e546, hx546_0, hx546_1, hx546_2, hx546_3, hx546_4, hx546_5, hx546_6, hx546_7, hl546_4, hi546_4⟩ := at_T25 HR1.out x5_1 p546 q546
   have hw546_7 := hx546_7
   have hw546_6 := hx546_6
   have hw546_5 := hx546_5
   have hw546_4 := hx546_4
   have hw546_3 := hx546_3
   have hw546_2 := hx546_2
   have hw546_1 := hx546_1
   have hw546_0 := hx546_0
   cases e546
   replace hx546_0 := (HB.out.cell (World.block_lt_of_cell? w _ hx546_0)).trans hx546_0
   replace hx546_1 := (HB.out.cell (World.block_lt_of_cell? w _ hx546_1)).trans hx546_1
   replace hx546_2 := (HB.out.cell (World.block_lt_of_cell? w _ hx546_2)).trans hx546_2
   replace hx546_3 := (HB.out.cell (World.block_lt_of_cell? w _ hx546_3)).trans hx546_3
   replace hx546_4 := (HB.out.cell (World.block_lt_of_cell? w _ hx546_4)).trans hx546_4
   replace hx546_5 := (HB.out.cell (World.block_lt_of_cell? w _ hx546_5)).trans hx546_5
   replace hx546_6 := (HB.out.cell (World.block_lt_of_cell? w _ hx546_6)).trans hx546_6
   replace hx546_7 := (HB.out.cell (World.block_lt_of_cell? w _ hx546_7)).trans hx546_7
   have HR546_4 := Aside0.mk hi546_4
   have HC546_4 := Aside0.mk hl546_4
   clear hi546_4 hl546_4
   replace p546 := eq_true p546
   replace q546 := eq_true q546
   refine start_ (n := 10) (S := fun w' => w'.cell? (ad545.add ((x5_1).toNat * 8)) = some (.int .i64 ((rd_T25 l0 x5_1).f0)) ∧ w'.cell? ⟨(ad545.add ((x5_1).toNat * 8)).block, (ad545.add ((x5_1).toNat * 8)).off + 1, none⟩ = some (.int .i64 ((rd_T25 l0 x5_1).f1)) ∧ w'.cell? ⟨(ad545.add ((x5_1).toNat * 8)).block, (ad545.add ((x5_1).toNat * 8)).off + 2, none⟩ = some (.int .i64 ((rd_T25 l0 x5_1).f2)) ∧ w'.cell? ⟨(ad545.add ((x5_1).toNat * 8)).block, (ad545.add ((x5_1).toNat * 8)).off + 3, none⟩ = some (.int .i64 ((rd_T25 l0 x5_1).f3)) ∧ w'.cell? ⟨(ad545.add ((x5_1).toNat * 8)).block, (ad545.add ((x5_1).toNat * 8)).off + 4, none⟩ = some (.slice A545_4 ((rd_T25 l0 x5_1).f4).length c545_4) ∧ w'.cell? ⟨(ad545.add ((x5_1).toNat * 8)).block, (ad545.add ((x5_1).toNat * 8)).off + 5, none⟩ = some (.string ((rd_T25 l0 x5_1).f5)) ∧ w'.cell? ⟨(ad545.add ((x5_1).toNat * 8)).block, (ad545.add ((x5_1).toNat * 8)).off + 6, none⟩ = some (.string ((rd_T25 l0 x5_1).f6)) ∧ w'.cell? ⟨(ad545.add ((x5_1).toNat * 8)).block, (ad545.add ((x5_1).toNat * 8)).off + 7, none⟩ = some (.float .f64 ((rd_T25 l0 x5_1).f7)) ∧ w'.cell? (ad546.add ((x5_1).toNat * 8)) = some (.int .i64 ((rd_T25 l1 x5_1).f0)) ∧ w'.cell? ⟨(ad546.add ((x5_1).toNat * 8)).block, (ad546.add ((x5_1).toNat * 8)).off + 1, none⟩ = some (.int .i64 ((rd_T25 l1 x5_1).f1)) ∧ w'.cell? ⟨(ad546.add ((x5_1).toNat * 8)).block, (ad546.add ((x5_1).toNat * 8)).off + 2, none⟩ = some (.int .i64 ((rd_T25 l1 x5_1).f2)) ∧ w'.cell? ⟨(ad546.add ((x5_1).toNat * 8)).block, (ad546.add ((x5_1).toNat * 8)).off + 3, none⟩ = some (.int .i64 ((rd_T25 l1 x5_1).f3)) ∧ w'.cell? ⟨(ad546.add ((x5_1).toNat * 8)).block, (ad546.add ((x5_1).toNat * 8)).off + 4, none⟩ = some (.slice A546_4 ((rd_T25 l1 x5_1).f4).length c546_4) ∧ w'.cell? ⟨(ad546.add ((x5_1).toNat * 8)).block, (ad546.add ((x5_1).toNat * 8)).off + 5, none⟩ = some (.string ((rd_T25 l1 x5_1).f5)) ∧ w'.cell? ⟨(ad546.add ((x5_1).toNat * 8)).block, (ad546.add ((x5_1).toNat * 8)).off + 6, none⟩ = some (.string ((rd_T25 l1 x5_1).f6)) ∧ w'.cell? ⟨(ad546.add ((x5_1).toNat * 8)).block, (ad546.add ((x5_1).toNat * 8)).off + 7, none⟩ = some (.float .f64 ((rd_T25 l1 x5_1).f7))) (ds := []) (bm 10 0) (by kernel_rfl) rfl rfl ⟨((HB.out.cell (World.block_lt_of_cell? w _ hw545_0)).trans hw545_0), ((HB.out.cell (World.block_lt_of_cell? w _ hw545_1)).trans hw545_1), ((HB.out.cell (World.block_lt_of_cell? w _ hw545_2)).trans hw545_2), ((HB.out.cell (World.block_lt_of_cell? w _ hw545_3)).trans hw545_3), ((HB.out.cell (World.block_lt_of_cell? w _ hw545_4)).trans hw545_4), ((HB.out.cell (World.block_lt_of_cell? w _ hw545_5)).trans hw545_5), ((HB.out.cell (World.block_lt_of_cell? w _ hw545_6)).trans hw545_6), ((HB.out.cell (World.block_lt_of_cell? w _ hw545_7)).trans hw545_7), ((HB.out.cell (World.block_lt_of_cell? w _ hw546_0)).trans hw546_0), ((HB.out.cell (World.block_lt_of_cell? w _ hw546_1)).trans hw546_1), ((HB.out.cell (World.block_lt_of_cell? w _ hw546_2)).trans hw546_2), ((HB.out.cell (World.block_lt_of_cell? w _ hw546_3)).trans hw546_3), ((HB.out.cell (World.block_lt_of_cell? w _ hw546_4)).trans hw546_4), ((HB.out.cell (World.block_lt_of_cell? w _ hw546_5)).trans hw546_5), ((HB.out.cell (World.block_lt_of_cell? w _ hw546_6)).trans hw546_6), ((HB.out.cell (World.block_lt_of_cell? w _ hw546_7)).trans hw546_7)⟩ (fun hHeld => ?_); refine with_tabW endonymref6_Same.tab6 endonymref6_Same.bits6 (fun HT_ HW_ => ?_)
   generalize wr.drew = w11 at HB HR545_4 HR546_4 hx545_0 hx545_1 hx545_2 hx545_3 hx545_4 hx545_5 hx545_6 hx545_7 hx546_0 hx546_1 hx546_2 hx546_3 hx546_4 hx546_5 hx546_6 hx546_7 hHeld ⊢
   refine sqP 0 (some 17) (bm 10 1) ?_
   refine sqP 1 (some 18) (bm 10 3) ?_
   refine sqP 2 (some 19) (bm 10 7) ?_
   refine sqP 4 (some 21) (bm 10 23) ?_
   refine sqP 5 (some 22) (bm 10 55) ?_
   refine sqP 6 (some 23) (bm 10 119) ?_
   refine sqT 3 (some 20) (bm 10 127) ?_
   refine sqT 7 (some 24) (bm 10 255) ?_
   refine sqI 8 (some 25) (bm 10 511) (fun K hK => ?_)
   refine goes_ Tryz.func66 (by kernel_rfl) rfl #[.agg #[.int .i64 ((rd_T25 l0 x5_1).f0), .int .i64 ((rd_T25 l0 x5_1).f1), .int .i64 ((rd_T25 l0 x5_1).f2), .int .i64 ((rd_T25 l0 x5_1).f3), .slice A545_4 ((rd_T25 l0 x5_1).f4).length c545_4, .string ((rd_T25 l0 x5_1).f5), .string ((rd_T25 l0 x5_1).f6), .float .f64 ((rd_T25 l0 x5_1).f7)], .agg #[.int .i64 ((rd_T25 l1 x5_1).f0), .int .i64 ((rd_T25 l1 x5_1).f1), .int .i64 ((rd_T25 l1 x5_1).f2), .int .i64 ((rd_T25 l1 x5_1).f3), .slice A546_4 ((rd_T25 l1 x5_1).f4).length c546_4, .string ((rd_T25 l1 x5_1).f5), .string ((rd_T25 l1 x5_1).f6), .float .f64 ((rd_T25 l1 x5_1).f7)]] (by rfl) rfl rfl sqA ?_
   with_reducible refine (endonymref6_SameRecord.calls k1 ((rd_T25 l0 x5_1).f0) ((rd_T25 l0 x5_1).f1) ((rd_T25 l0 x5_1).f2) ((rd_T25 l0 x5_1).f3) _ _ ((rd_T25 l0 x5_1).f4) ((rd_T25 l0 x5_1).f5) ((rd_T25 l0 x5_1).f6) ((rd_T25 l0 x5_1).f7) ((rd_T25 l1 x5_1).f0) ((rd_T25 l1 x5_1).f1) ((rd_T25 l1 x5_1).f2) ((rd_T25 l1 x5_1).f3) _ _ ((rd_T25 l1 x5_1).f4) ((rd_T25 l1 x5_1).f5) ((rd_T25 l1 x5_1).f6) ((rd_T25 l1 x5_1).f7) false _ ?side1 ?side2 ?side3 ?side4 A7.out).mono ?_
   (case side1 => exact sqC (Kd.C_below HR545_4.out HB.out))
   (case side2 => exact HC545_4.out)
   (case side3 => exact sqC (Kd.C_below HR546_4.out HB.out))
   (case side4 => exact HC546_4.out)
   rintro e w12 ⟨rfl, hb⟩
   refine ⟨_, rfl, ?_⟩
   have n0_ := Aside0.mk (below_step sqB hb)
   clear HB
   have HB := n0_
   clear n0_
   (try clear hb)
   (try clear hb2)
   (try clear hk)
   (try clear hi)
   refine hK.out _ _ ⟨((HB.out.cell (World.block_lt_of_cell? w _ hw545_0)).trans hw545_0), ((HB.out.cell (World.block_lt_of_cell? w _ hw545_1)).trans hw545_1), ((HB.out.cell (World.block_lt_of_cell? w _ hw545_2)).trans hw545_2), ((HB.out.cell (World.block_lt_of_cell? w _ hw545_3)).trans hw545_3), ((HB.out.cell (World.block_lt_of_cell? w _ hw545_4)).trans hw545_4), ((HB.out.cell (World.block_lt_of_cell? w _ hw545_5)).trans hw545_5), ((HB.out.cell (World.block_lt_of_cell? w _ hw545_6)).trans hw545_6), ((HB.out.cell (World.block_lt_of_cell? w _ hw545_7)).trans hw545_7), ((HB.out.cell (World.block_lt_of_cell? w _ hw546_0)).trans hw546_0), ((HB.out.cell (World.block_lt_of_cell? w _ hw546_1)).trans hw546_1), ((HB.out.cell (World.block_lt_of_cell? w _ hw546_2)).trans hw546_2), ((HB.out.cell (World.block_lt_of_cell? w _ hw546_3)).trans hw546_3), ((HB.out.cell (World.block_lt_of_cell? w _ hw546_4)).trans hw546_4), ((HB.out.cell (World.block_lt_of_cell? w _ hw546_5)).trans hw546_5), ((HB.out.cell (World.block_lt_of_cell? w _ hw546_6)).trans hw546_6), ((HB.out.cell (World.block_lt_of_cell? w _ hw546_7)).trans hw546_7)⟩ (fun hHeld => ?_)
   clear hK K
   refine sqN 25 ?_
   refine sqP 9 (some 26) (bm 10 1023) ?_
   refine done_ (done_of HT_.out (by kernel_rfl)) ?_
   try go_wp2
   go_ret
   exact ⟨sqE', sqB⟩
open Classical in
noncomputable def endonymlaw6_whole.f (k : Nat) (l0 : List (S25)) (l1 : List (S25)) : Option (Bool) := if l0 = l1.take l0.length ∧ l0.length ≤ l1.length ∧ endonymref6_Same.f k l0 l0 = some true ∧ (∀ x ∈ l0, x.f4.length < 1000000000000) ∧ l0.length ≤ 1000 then some true else none
theorem endonymlaw6_whole.mono : ∀ a0 a1 k, LeO (endonymlaw6_whole.f k a0 a1) (endonymlaw6_whole.f (k + 1) a0 a1) := by
 intro a0 a1 k r h
 unfold endonymlaw6_whole.f at h ⊢
 split at h
 ·
  rename_i hc
  rw [if_pos ⟨hc.1, hc.2.1, endonymref6_Same.mono _ _ _ _ hc.2.2.1, hc.2.2.2⟩]; exact h
 ·
  cases h
theorem up_26 (A : Option Addr) (n m c : Nat) (h : m ≤ c) (hn : n ≤ c) : ∀ W : World, (Instr.slice 26 (.slice A n c) none (some (.int .i64 (m : Int))) none).run Tryz.prog W = .ok (.slice A m c) W := by
 intro W
 obtain ⟨i0, hi, _, hsz, _⟩ := info_parts info25
 have hel : Tryz.prog.elem 26 = 25 := by simp [Program.elem, Tryz.underlying26]
 have hu : Tryz.prog.underlying 26 = some (.slice (Tryz.prog.elem 26)) := by rw [hel]; exact Tryz.underlying26
 rw [run_slice_h W 26 A n c hu .i64 _ (by omega) (by omega), hel, Int.toNat_natCast]
 simp [sizeOf, typeInfo, hi, hsz, sliced, Result.andThen, Addr.add]
theorem up_22 (A : Option Addr) (n m c : Nat) (h : m ≤ c) (hn : n ≤ c) : ∀ W : World, (Instr.slice 22 (.slice A n c) none (some (.int .i64 (m : Int))) none).run Tryz.prog W = .ok (.slice A m c) W := by
 intro W
 obtain ⟨i0, hi, _, hsz, _⟩ := info_parts info21
 have hel : Tryz.prog.elem 22 = 21 := by simp [Program.elem, Tryz.underlying22]
 have hu : Tryz.prog.underlying 22 = some (.slice (Tryz.prog.elem 22)) := by rw [hel]; exact Tryz.underlying22
 rw [run_slice_h W 22 A n c hu .i64 _ (by omega) (by omega), hel, Int.toNat_natCast]
 simp [sizeOf, typeInfo, hi, hsz, sliced, Result.andThen, Addr.add]
theorem endonymlaw6_whole.calls (k : Nat) (A0 : Option Addr) (c0 : Nat) (l0 : List (S25)) (A1 : Option Addr) (c1 : Nat) (l1 : List (S25)) (r : Bool) (w : World) (hr0 : Kd.C k25 w A0 l0.length l0) (hc0 : l0.length ≤ c0) (hr1 : Kd.C k25 w A1 l1.length l1) (hc1 : l1.length ≤ c1) (hfew : FewRoom w (.slice A0 l0.length c0) l0) (h : endonymlaw6_whole.f k l0 l1 = some r) :
  Calls Tryz.prog 20 #[.slice A0 l0.length c0, .slice A1 l1.length c1] w fun e w' => e = .returned (.bool r) ∧ Below w.heap.size w w' := by
 unfold endonymlaw6_whole.f at h
 split at h
 case isFalse => cases h
 rename_i hc
 obtain ⟨e1, e2, e3, e4, e5⟩ := hc
 obtain rfl := Option.some.inj h
 obtain ⟨g, c, eg, hcap, h7, h8, hx⟩ := hfew
 obtain ⟨rfl, rfl⟩ : A0 = some ⟨g, 0, none⟩ ∧ c0 = c := by simpa using eg
 clear eg h
 have HR0 := Aside0.mk hr0
 have HC0 := Aside0.mk hc0
 have hr1' := Kd.C_take (m := l0.length) hr1 e2
 rw [← e1] at hr1'
 have HR1 := Aside0.mk hr1'
 have HC1 := Aside0.mk (show l0.length ≤ c1 by omega)
 have A3 := Aside0.mk e3
 have HB := Aside0.mk (Below.refl w.heap.size w)
 have hs0 := cut_26 A1 l1.length l0.length c1 e2 hc1
 have hs1 : ∀ W : World, (Instr.slice 26 (.slice (some ⟨g, 0, none⟩) l0.length c0) none (some (.int .i64 ((l0.length : Int) + 2))) none).run Tryz.prog W = .ok (.slice (some ⟨g, 0, none⟩) (l0.length + 2) c0) W := up_26 (some ⟨g, 0, none⟩) l0.length (l0.length + 2) c0 hcap hc0
 have H7 := Aside0.mk h7
 have H8 := Aside0.mk h8
 have HX := Aside0.mk hx
 have HS := Aside0.mk e4
 have HN := Aside0.mk e5
 have E2 := Aside0.mk e2
 clear hr0 hc0 hr1 hr1' hc1 h7 h8 hx e1 e2 e3 e4 e5 hcap
 have w2 : wrap64 ((l0.length : Int) + 2) = (l0.length : Int) + 2 := by unfold wrap64; have := HN.out; omega
 have w1 : wrap64 ((l0.length : Int) + 1) = (l0.length : Int) + 1 := by unfold wrap64; have := HN.out; omega
 go_enter Tryz.func20, Tryz.ntmps20
 go_wp2_with (first | ((with_reducible refine gate_callee (f := 26) rfl ?_); refine goesL_ (some 14) rfl rfl Tryz.func26 (by kernel_rfl) rfl #[.slice (some ⟨g, 0, none⟩) l0.length c0, .slice A1 l0.length c1] rfl sqA ?_; (with_reducible refine (endonymref6_Same.calls k _ _ l0 _ _ l0 true _ ?side1 ?side2 ?side3 ?side4 A3.out).mono ?_); (case side1 => repeat (first | exact HR0.out | (with_reducible refine Kd.C_alloc ?_ _) | (with_reducible refine Kd.C_drewN ?_ _) | (with_reducible refine Kd.C_drew ?_))); (case side2 => exact HC0.out); (case side3 => repeat (first | exact HR1.out | (with_reducible refine Kd.C_alloc ?_ _) | (with_reducible refine Kd.C_drewN ?_ _) | (with_reducible refine Kd.C_drew ?_))); (case side4 => exact HC1.out); rintro e w8 ⟨rfl, hb⟩; refine ⟨_, rfl, ?_⟩; have n1_ := Aside0.mk (below_step sqB hb); have h7 := (hb.cell (World.block_lt_of_cell? w _ H7.out)).trans H7.out; have h8 := (hb.cell (World.block_lt_of_cell? w _ H8.out)).trans H8.out; clear HB; have HB := n1_; clear n1_ hb))
 clear h7 h8 hs0 hs1 w1 w2
 go_loopg [6, 7] (l0.length + 1) (fun kq_ v6 v7 w' => ∃ (i : Nat), v6 = .int .i64 (i : Int) ∧ Aside0 (kq_ + i = l0.length + 1 ∧ i ≤ l0.length) ∧ Aside0 (Below w.heap.size w w'))
 case atStart => exact ⟨0, rfl, ⟨by omega, by omega⟩, ⟨sqB⟩⟩
 case round =>
  clear HB
  obtain ⟨i, rfl, HK, HB⟩ := hrel
  obtain ⟨hki, hin⟩ := HK.out
  by_cases hi : i < l0.length
  case neg =>
   have hd : decide ((i : Int) < (l0.length : Int)) = false := decide_eq_false (by omega)
   have hd2 : (i < l0.length) = False := eq_false (by omega)
   clear hki hin hi
   go_wp2
   go_ret
   exact ⟨rfl, sqB⟩
  case pos =>
   have hd : decide ((i : Int) < (l0.length : Int)) = true := decide_eq_true (by omega)
   have hd2 : (i < l0.length) = True := eq_true hi
   cases gk with
   | zero => omega
   | succ k1 =>
   obtain ⟨x, hxi⟩ : ∃ x, l0[i]? = some x := ⟨l0[i], List.getElem?_eq_getElem (by omega)⟩
   obtain ⟨A4, c4, h4, g4, c4', e4, ⟨hc4, hm4⟩, hcell⟩ := HX.out i x hxi
   obtain ⟨rfl, rfl⟩ : A4 = some ⟨g4, 0, none⟩ ∧ c4 = c4' := by simpa using e4
   have hx4 := (HB.out.cell (World.block_lt_of_cell? w _ h4)).trans h4
   have hx7 := (HB.out.cell (World.block_lt_of_cell? w _ (hcell 0 _ rfl))).trans (hcell 0 _ rfl)
   have hx8 := (HB.out.cell (World.block_lt_of_cell? w _ (hcell 1 _ rfl))).trans (hcell 1 _ rfl)
   rw [Nat.add_zero] at hx7
   have hsx := HS.out x (List.mem_of_getElem? hxi)
   have hs2 : ∀ W : World, (Instr.slice 22 (.slice (some ⟨g4, 0, none⟩) x.f4.length c4) none (some (.int .i64 ((x.f4.length : Int) + 2))) none).run Tryz.prog W = .ok (.slice (some ⟨g4, 0, none⟩) (x.f4.length + 2) c4) W := up_22 (some ⟨g4, 0, none⟩) x.f4.length (x.f4.length + 2) c4 (by simpa using hc4) (by simp at hc4; omega)
   have w2 : wrap64 ((x.f4.length : Int) + 2) = (x.f4.length : Int) + 2 := by unfold wrap64; omega
   have w1 : wrap64 ((x.f4.length : Int) + 1) = (x.f4.length : Int) + 1 := by unfold wrap64; omega
   have HI := Aside0.mk hi; have HKI := Aside0.mk hki
   clear hsx hc4 hm4 hcell e4 h4 hxi hki hin hi
   go_wp2
   go_roundg k1
   case measure => omega
   case rel => exact ⟨i + 1, by rw [show wrap64 ((i : Int) + 1) = ((i + 1 : Nat) : Int) from by unfold wrap64; have := HI.out; have := HN.out; omega], ⟨by have := HKI.out; omega, by have := HI.out; omega⟩, HB⟩
def endonymref6_Family.f (a0 : Int) : Option (Int) := if a0 < 1 then (some 0) else (if a0 > 15 then (some 0) else (if a0 = 0 then (some 0) else (if a0 = 1 then (some 1) else (if a0 = 2 then (some 1) else (if a0 = 3 then (some 1) else (if a0 = 4 then (some 1) else (if a0 = 5 then (some 1) else (if a0 = 6 then (some 2) else (if a0 = 7 then (some 3) else (if a0 = 8 then (some 3) else (if a0 = 9 then (some 4) else (if a0 = 10 then (some 5) else (if a0 = 11 then (some 6) else (if a0 = 12 then (some 7) else (if a0 = 13 then (some 8) else (if a0 = 14 then (some 9) else (if a0 = 15 then (some 10) else (none))))))))))))))))))
theorem endonymref6_Family.calls (a0 : Int) (r : Int) (w : World) (h : endonymref6_Family.f a0 = some r) :
  Calls Tryz.prog 33 #[.int .i64 a0] w fun e w' => e = .returned (.int .i64 r) ∧ Drawn0 w w' := by
 have H : (if a0 < 1 then (some 0) else (if a0 > 15 then (some 0) else (if a0 = 0 then (some 0) else (if a0 = 1 then (some 1) else (if a0 = 2 then (some 1) else (if a0 = 3 then (some 1) else (if a0 = 4 then (some 1) else (if a0 = 5 then (some 1) else (if a0 = 6 then (some 2) else (if a0 = 7 then (some 3) else (if a0 = 8 then (some 3) else (if a0 = 9 then (some 4) else (if a0 = 10 then (some 5) else (if a0 = 11 then (some 6) else (if a0 = 12 then (some 7) else (if a0 = 13 then (some 8) else (if a0 = 14 then (some 9) else (if a0 = 15 then (some 10) else (none))))))))))))))))))) = some r := h
 clear h
 by_cases c2 : a0 < 1
 ·rw [if_pos c2] at H
  have c2b0 := decide_eq_true c2
  clear c2
  obtain rfl := Option.some.inj H
  go_enter Tryz.func33, Tryz.ntmps33
  go_wp2
  go_ret
  exact ⟨sqE, sqW⟩
 rw [if_neg c2] at H
 have c2b0 := decide_eq_false c2
 clear c2
 by_cases c3 : a0 > 15
 ·rw [if_pos c3] at H
  have c3b0 := decide_eq_true c3
  clear c3
  obtain rfl := Option.some.inj H
  go_enter Tryz.func33, Tryz.ntmps33
  go_wp2
  go_ret
  exact ⟨sqE, sqW⟩
 rw [if_neg c3] at H
 have c3b0 := decide_eq_false c3
 clear c3
 by_cases c4 : a0 = 0
 ·rw [if_pos c4] at H
  have c4r : ∀ w_ : World, Sem.run Tryz.prog (Instr.index 108 (Value.agg #[Value.int IntKind.i64 0, Value.int IntKind.i64 1, Value.int IntKind.i64 1, Value.int IntKind.i64 1, Value.int IntKind.i64 1, Value.int IntKind.i64 1, Value.int IntKind.i64 2, Value.int IntKind.i64 3, Value.int IntKind.i64 3, Value.int IntKind.i64 4, Value.int IntKind.i64 5, Value.int IntKind.i64 6, Value.int IntKind.i64 7, Value.int IntKind.i64 8, Value.int IntKind.i64 9, Value.int IntKind.i64 10]) (Value.int IntKind.i64 0)) w_ = Result.ok (Value.int IntKind.i64 0) w_ := fun _ => rfl
  obtain rfl := Option.some.inj H
  go_enter Tryz.func33, Tryz.ntmps33
  go_wp2
  go_ret
  exact ⟨sqE, sqW⟩
 rw [if_neg c4] at H
 by_cases c5 : a0 = 1
 ·rw [if_pos c5] at H
  have c5r : ∀ w_ : World, Sem.run Tryz.prog (Instr.index 108 (Value.agg #[Value.int IntKind.i64 0, Value.int IntKind.i64 1, Value.int IntKind.i64 1, Value.int IntKind.i64 1, Value.int IntKind.i64 1, Value.int IntKind.i64 1, Value.int IntKind.i64 2, Value.int IntKind.i64 3, Value.int IntKind.i64 3, Value.int IntKind.i64 4, Value.int IntKind.i64 5, Value.int IntKind.i64 6, Value.int IntKind.i64 7, Value.int IntKind.i64 8, Value.int IntKind.i64 9, Value.int IntKind.i64 10]) (Value.int IntKind.i64 1)) w_ = Result.ok (Value.int IntKind.i64 1) w_ := fun _ => rfl
  obtain rfl := Option.some.inj H
  go_enter Tryz.func33, Tryz.ntmps33
  go_wp2
  go_ret
  exact ⟨sqE, sqW⟩
 rw [if_neg c5] at H
 by_cases c6 : a0 = 2
 ·rw [if_pos c6] at H
  have c6r : ∀ w_ : World, Sem.run Tryz.prog (Instr.index 108 (Value.agg #[Value.int IntKind.i64 0, Value.int IntKind.i64 1, Value.int IntKind.i64 1, Value.int IntKind.i64 1, Value.int IntKind.i64 1, Value.int IntKind.i64 1, Value.int IntKind.i64 2, Value.int IntKind.i64 3, Value.int IntKind.i64 3, Value.int IntKind.i64 4, Value.int IntKind.i64 5, Value.int IntKind.i64 6, Value.int IntKind.i64 7, Value.int IntKind.i64 8, Value.int IntKind.i64 9, Value.int IntKind.i64 10]) (Value.int IntKind.i64 2)) w_ = Result.ok (Value.int IntKind.i64 1) w_ := fun _ => rfl
  obtain rfl := Option.some.inj H
  go_enter Tryz.func33, Tryz.ntmps33
  go_wp2
  go_ret
  exact ⟨sqE, sqW⟩
 rw [if_neg c6] at H
 by_cases c7 : a0 = 3
 ·rw [if_pos c7] at H
  have c7r : ∀ w_ : World, Sem.run Tryz.prog (Instr.index 108 (Value.agg #[Value.int IntKind.i64 0, Value.int IntKind.i64 1, Value.int IntKind.i64 1, Value.int IntKind.i64 1, Value.int IntKind.i64 1, Value.int IntKind.i64 1, Value.int IntKind.i64 2, Value.int IntKind.i64 3, Value.int IntKind.i64 3, Value.int IntKind.i64 4, Value.int IntKind.i64 5, Value.int IntKind.i64 6, Value.int IntKind.i64 7, Value.int IntKind.i64 8, Value.int IntKind.i64 9, Value.int IntKind.i64 10]) (Value.int IntKind.i64 3)) w_ = Result.ok (Value.int IntKind.i64 1) w_ := fun _ => rfl
  obtain rfl := Option.some.inj H
  go_enter Tryz.func33, Tryz.ntmps33
  go_wp2
  go_ret
  exact ⟨sqE, sqW⟩
 rw [if_neg c7] at H
 by_cases c8 : a0 = 4
 ·rw [if_pos c8] at H
  have c8r : ∀ w_ : World, Sem.run Tryz.prog (Instr.index 108 (Value.agg #[Value.int IntKind.i64 0, Value.int IntKind.i64 1, Value.int IntKind.i64 1, Value.int IntKind.i64 1, Value.int IntKind.i64 1, Value.int IntKind.i64 1, Value.int IntKind.i64 2, Value.int IntKind.i64 3, Value.int IntKind.i64 3, Value.int IntKind.i64 4, Value.int IntKind.i64 5, Value.int IntKind.i64 6, Value.int IntKind.i64 7, Value.int IntKind.i64 8, Value.int IntKind.i64 9, Value.int IntKind.i64 10]) (Value.int IntKind.i64 4)) w_ = Result.ok (Value.int IntKind.i64 1) w_ := fun _ => rfl
  obtain rfl := Option.some.inj H
  go_enter Tryz.func33, Tryz.ntmps33
  go_wp2
  go_ret
  exact ⟨sqE, sqW⟩
 rw [if_neg c8] at H
 by_cases c9 : a0 = 5
 ·rw [if_pos c9] at H
  have c9r : ∀ w_ : World, Sem.run Tryz.prog (Instr.index 108 (Value.agg #[Value.int IntKind.i64 0, Value.int IntKind.i64 1, Value.int IntKind.i64 1, Value.int IntKind.i64 1, Value.int IntKind.i64 1, Value.int IntKind.i64 1, Value.int IntKind.i64 2, Value.int IntKind.i64 3, Value.int IntKind.i64 3, Value.int IntKind.i64 4, Value.int IntKind.i64 5, Value.int IntKind.i64 6, Value.int IntKind.i64 7, Value.int IntKind.i64 8, Value.int IntKind.i64 9, Value.int IntKind.i64 10]) (Value.int IntKind.i64 5)) w_ = Result.ok (Value.int IntKind.i64 1) w_ := fun _ => rfl
  obtain rfl := Option.some.inj H
  go_enter Tryz.func33, Tryz.ntmps33
  go_wp2
  go_ret
  exact ⟨sqE, sqW⟩
 rw [if_neg c9] at H
 by_cases c10 : a0 = 6
 ·rw [if_pos c10] at H
  have c10r : ∀ w_ : World, Sem.run Tryz.prog (Instr.index 108 (Value.agg #[Value.int IntKind.i64 0, Value.int IntKind.i64 1, Value.int IntKind.i64 1, Value.int IntKind.i64 1, Value.int IntKind.i64 1, Value.int IntKind.i64 1, Value.int IntKind.i64 2, Value.int IntKind.i64 3, Value.int IntKind.i64 3, Value.int IntKind.i64 4, Value.int IntKind.i64 5, Value.int IntKind.i64 6, Value.int IntKind.i64 7, Value.int IntKind.i64 8, Value.int IntKind.i64 9, Value.int IntKind.i64 10]) (Value.int IntKind.i64 6)) w_ = Result.ok (Value.int IntKind.i64 2) w_ := fun _ => rfl
  obtain rfl := Option.some.inj H
  go_enter Tryz.func33, Tryz.ntmps33
  go_wp2
  go_ret
  exact ⟨sqE, sqW⟩
 rw [if_neg c10] at H
 by_cases c11 : a0 = 7
 ·rw [if_pos c11] at H
  have c11r : ∀ w_ : World, Sem.run Tryz.prog (Instr.index 108 (Value.agg #[Value.int IntKind.i64 0, Value.int IntKind.i64 1, Value.int IntKind.i64 1, Value.int IntKind.i64 1, Value.int IntKind.i64 1, Value.int IntKind.i64 1, Value.int IntKind.i64 2, Value.int IntKind.i64 3, Value.int IntKind.i64 3, Value.int IntKind.i64 4, Value.int IntKind.i64 5, Value.int IntKind.i64 6, Value.int IntKind.i64 7, Value.int IntKind.i64 8, Value.int IntKind.i64 9, Value.int IntKind.i64 10]) (Value.int IntKind.i64 7)) w_ = Result.ok (Value.int IntKind.i64 3) w_ := fun _ => rfl
  obtain rfl := Option.some.inj H
  go_enter Tryz.func33, Tryz.ntmps33
  go_wp2
  go_ret
  exact ⟨sqE, sqW⟩
 rw [if_neg c11] at H
 by_cases c12 : a0 = 8
 ·rw [if_pos c12] at H
  have c12r : ∀ w_ : World, Sem.run Tryz.prog (Instr.index 108 (Value.agg #[Value.int IntKind.i64 0, Value.int IntKind.i64 1, Value.int IntKind.i64 1, Value.int IntKind.i64 1, Value.int IntKind.i64 1, Value.int IntKind.i64 1, Value.int IntKind.i64 2, Value.int IntKind.i64 3, Value.int IntKind.i64 3, Value.int IntKind.i64 4, Value.int IntKind.i64 5, Value.int IntKind.i64 6, Value.int IntKind.i64 7, Value.int IntKind.i64 8, Value.int IntKind.i64 9, Value.int IntKind.i64 10]) (Value.int IntKind.i64 8)) w_ = Result.ok (Value.int IntKind.i64 3) w_ := fun _ => rfl
  obtain rfl := Option.some.inj H
  go_enter Tryz.func33, Tryz.ntmps33
  go_wp2
  go_ret
  exact ⟨sqE, sqW⟩
 rw [if_neg c12] at H
 by_cases c13 : a0 = 9
 ·rw [if_pos c13] at H
  have c13r : ∀ w_ : World, Sem.run Tryz.prog (Instr.index 108 (Value.agg #[Value.int IntKind.i64 0, Value.int IntKind.i64 1, Value.int IntKind.i64 1, Value.int IntKind.i64 1, Value.int IntKind.i64 1, Value.int IntKind.i64 1, Value.int IntKind.i64 2, Value.int IntKind.i64 3, Value.int IntKind.i64 3, Value.int IntKind.i64 4, Value.int IntKind.i64 5, Value.int IntKind.i64 6, Value.int IntKind.i64 7, Value.int IntKind.i64 8, Value.int IntKind.i64 9, Value.int IntKind.i64 10]) (Value.int IntKind.i64 9)) w_ = Result.ok (Value.int IntKind.i64 4) w_ := fun _ => rfl
  obtain rfl := Option.some.inj H
  go_enter Tryz.func33, Tryz.ntmps33
  go_wp2
  go_ret
  exact ⟨sqE, sqW⟩
 rw [if_neg c13] at H
 by_cases c14 : a0 = 10
 ·rw [if_pos c14] at H
  have c14r : ∀ w_ : World, Sem.run Tryz.prog (Instr.index 108 (Value.agg #[Value.int IntKind.i64 0, Value.int IntKind.i64 1, Value.int IntKind.i64 1, Value.int IntKind.i64 1, Value.int IntKind.i64 1, Value.int IntKind.i64 1, Value.int IntKind.i64 2, Value.int IntKind.i64 3, Value.int IntKind.i64 3, Value.int IntKind.i64 4, Value.int IntKind.i64 5, Value.int IntKind.i64 6, Value.int IntKind.i64 7, Value.int IntKind.i64 8, Value.int IntKind.i64 9, Value.int IntKind.i64 10]) (Value.int IntKind.i64 10)) w_ = Result.ok (Value.int IntKind.i64 5) w_ := fun _ => rfl
  obtain rfl := Option.some.inj H
  go_enter Tryz.func33, Tryz.ntmps33
  go_wp2
  go_ret
  exact ⟨sqE, sqW⟩
 rw [if_neg c14] at H
 by_cases c15 : a0 = 11
 ·rw [if_pos c15] at H
  have c15r : ∀ w_ : World, Sem.run Tryz.prog (Instr.index 108 (Value.agg #[Value.int IntKind.i64 0, Value.int IntKind.i64 1, Value.int IntKind.i64 1, Value.int IntKind.i64 1, Value.int IntKind.i64 1, Value.int IntKind.i64 1, Value.int IntKind.i64 2, Value.int IntKind.i64 3, Value.int IntKind.i64 3, Value.int IntKind.i64 4, Value.int IntKind.i64 5, Value.int IntKind.i64 6, Value.int IntKind.i64 7, Value.int IntKind.i64 8, Value.int IntKind.i64 9, Value.int IntKind.i64 10]) (Value.int IntKind.i64 11)) w_ = Result.ok (Value.int IntKind.i64 6) w_ := fun _ => rfl
  obtain rfl := Option.some.inj H
  go_enter Tryz.func33, Tryz.ntmps33
  go_wp2
  go_ret
  exact ⟨sqE, sqW⟩
 rw [if_neg c15] at H
 by_cases c16 : a0 = 12
 ·rw [if_pos c16] at H
  have c16r : ∀ w_ : World, Sem.run Tryz.prog (Instr.index 108 (Value.agg #[Value.int IntKind.i64 0, Value.int IntKind.i64 1, Value.int IntKind.i64 1, Value.int IntKind.i64 1, Value.int IntKind.i64 1, Value.int IntKind.i64 1, Value.int IntKind.i64 2, Value.int IntKind.i64 3, Value.int IntKind.i64 3, Value.int IntKind.i64 4, Value.int IntKind.i64 5, Value.int IntKind.i64 6, Value.int IntKind.i64 7, Value.int IntKind.i64 8, Value.int IntKind.i64 9, Value.int IntKind.i64 10]) (Value.int IntKind.i64 12)) w_ = Result.ok (Value.int IntKind.i64 7) w_ := fun _ => rfl
  obtain rfl := Option.some.inj H
  go_enter Tryz.func33, Tryz.ntmps33
  go_wp2
  go_ret
  exact ⟨sqE, sqW⟩
 rw [if_neg c16] at H
 by_cases c17 : a0 = 13
 ·rw [if_pos c17] at H
  have c17r : ∀ w_ : World, Sem.run Tryz.prog (Instr.index 108 (Value.agg #[Value.int IntKind.i64 0, Value.int IntKind.i64 1, Value.int IntKind.i64 1, Value.int IntKind.i64 1, Value.int IntKind.i64 1, Value.int IntKind.i64 1, Value.int IntKind.i64 2, Value.int IntKind.i64 3, Value.int IntKind.i64 3, Value.int IntKind.i64 4, Value.int IntKind.i64 5, Value.int IntKind.i64 6, Value.int IntKind.i64 7, Value.int IntKind.i64 8, Value.int IntKind.i64 9, Value.int IntKind.i64 10]) (Value.int IntKind.i64 13)) w_ = Result.ok (Value.int IntKind.i64 8) w_ := fun _ => rfl
  obtain rfl := Option.some.inj H
  go_enter Tryz.func33, Tryz.ntmps33
  go_wp2
  go_ret
  exact ⟨sqE, sqW⟩
 rw [if_neg c17] at H
 by_cases c18 : a0 = 14
 ·rw [if_pos c18] at H
  have c18r : ∀ w_ : World, Sem.run Tryz.prog (Instr.index 108 (Value.agg #[Value.int IntKind.i64 0, Value.int IntKind.i64 1, Value.int IntKind.i64 1, Value.int IntKind.i64 1, Value.int IntKind.i64 1, Value.int IntKind.i64 1, Value.int IntKind.i64 2, Value.int IntKind.i64 3, Value.int IntKind.i64 3, Value.int IntKind.i64 4, Value.int IntKind.i64 5, Value.int IntKind.i64 6, Value.int IntKind.i64 7, Value.int IntKind.i64 8, Value.int IntKind.i64 9, Value.int IntKind.i64 10]) (Value.int IntKind.i64 14)) w_ = Result.ok (Value.int IntKind.i64 9) w_ := fun _ => rfl
  obtain rfl := Option.some.inj H
  go_enter Tryz.func33, Tryz.ntmps33
  go_wp2
  go_ret
  exact ⟨sqE, sqW⟩
 rw [if_neg c18] at H
 by_cases c19 : a0 = 15
 case neg => rw [if_neg c19] at H; exact absurd H (by simp)
 rw [if_pos c19] at H
 have c19r : ∀ w_ : World, Sem.run Tryz.prog (Instr.index 108 (Value.agg #[Value.int IntKind.i64 0, Value.int IntKind.i64 1, Value.int IntKind.i64 1, Value.int IntKind.i64 1, Value.int IntKind.i64 1, Value.int IntKind.i64 1, Value.int IntKind.i64 2, Value.int IntKind.i64 3, Value.int IntKind.i64 3, Value.int IntKind.i64 4, Value.int IntKind.i64 5, Value.int IntKind.i64 6, Value.int IntKind.i64 7, Value.int IntKind.i64 8, Value.int IntKind.i64 9, Value.int IntKind.i64 10]) (Value.int IntKind.i64 15)) w_ = Result.ok (Value.int IntKind.i64 10) w_ := fun _ => rfl
 obtain rfl := Option.some.inj H
 go_enter Tryz.func33, Tryz.ntmps33
 go_wp2
 go_ret
 exact ⟨sqE, sqW⟩
end Go.Proofs.YtnoppeocbfapdaaGreatDoor.T
