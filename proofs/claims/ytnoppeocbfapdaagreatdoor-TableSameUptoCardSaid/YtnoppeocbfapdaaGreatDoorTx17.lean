import Derived.Test.YtnoppeocbfapdaaGreatDoorTx0
import Derived.Test.YtnoppeocbfapdaaGreatDoorTx1
namespace Go.Proofs.YtnoppeocbfapdaaGreatDoor.T
open Go.RowKit Go.Proofs.YtnoppeocbfapdaaGreatDoorW.PrintWords Go.Proofs.YtnoppeocbfapdaaGreatDoorW.PrintLast Go.Proofs.YtnoppeocbfapdaaGreatDoorW.PrintMore
set_option maxHeartbeats 40000000
set_option maxRecDepth 100000
attribute [local go_sem] max2_int min2_int max_two min_two max_three min_three max_four min_four
set_option linter.unusedVariables false
set_option linter.unusedSimpArgs false
mutual
def table_Same.l0 : Nat → List (S25) → List (S25) → Int → Int → Option (Bool)
 | 0, _, _, _, _ => none
 | k + 1, x0, x1, x15, x16 => if x16 < x15 then (if 0 ≤ x16 then (if x16 < (x0.length : Int) then (if x16 < (x1.length : Int) then (if ((rd_T25 x0 x16).f0) = ((rd_T25 x1 x16).f0) then (if ((rd_T25 x0 x16).f1) = ((rd_T25 x1 x16).f1) then (if ((rd_T25 x0 x16).f2) = ((rd_T25 x1 x16).f2) then (if ((rd_T25 x0 x16).f3) = ((rd_T25 x1 x16).f3) then (if ((rd_T25 x0 x16).f5).toList = ((rd_T25 x1 x16).f5).toList then (if ((rd_T25 x0 x16).f6).toList = ((rd_T25 x1 x16).f6).toList then ((api_Bits.f ((rd_T25 x0 x16).f7)).bind fun t541 => ((api_Bits.f ((rd_T25 x1 x16).f7)).bind fun t542 => (if t541 = t542 then (table_Same.j1 k x0 x1 x15 x16 ((((rd_T25 x0 x16).f4).length : Int) != (((rd_T25 x1 x16).f4).length : Int)) ((rd_T25 x0 x16).f0) ((rd_T25 x0 x16).f1) ((rd_T25 x0 x16).f2) ((rd_T25 x0 x16).f3) ((rd_T25 x0 x16).f4) ((rd_T25 x0 x16).f5) ((rd_T25 x0 x16).f6) ((rd_T25 x0 x16).f7) ((rd_T25 x1 x16).f0) ((rd_T25 x1 x16).f1) ((rd_T25 x1 x16).f2) ((rd_T25 x1 x16).f3) ((rd_T25 x1 x16).f4) ((rd_T25 x1 x16).f5) ((rd_T25 x1 x16).f6) ((rd_T25 x1 x16).f7)) else (table_Same.j1 k x0 x1 x15 x16 true ((rd_T25 x0 x16).f0) ((rd_T25 x0 x16).f1) ((rd_T25 x0 x16).f2) ((rd_T25 x0 x16).f3) ((rd_T25 x0 x16).f4) ((rd_T25 x0 x16).f5) ((rd_T25 x0 x16).f6) ((rd_T25 x0 x16).f7) ((rd_T25 x1 x16).f0) ((rd_T25 x1 x16).f1) ((rd_T25 x1 x16).f2) ((rd_T25 x1 x16).f3) ((rd_T25 x1 x16).f4) ((rd_T25 x1 x16).f5) ((rd_T25 x1 x16).f6) ((rd_T25 x1 x16).f7))))) else (table_Same.j1 k x0 x1 x15 x16 true ((rd_T25 x0 x16).f0) ((rd_T25 x0 x16).f1) ((rd_T25 x0 x16).f2) ((rd_T25 x0 x16).f3) ((rd_T25 x0 x16).f4) ((rd_T25 x0 x16).f5) ((rd_T25 x0 x16).f6) ((rd_T25 x0 x16).f7) ((rd_T25 x1 x16).f0) ((rd_T25 x1 x16).f1) ((rd_T25 x1 x16).f2) ((rd_T25 x1 x16).f3) ((rd_T25 x1 x16).f4) ((rd_T25 x1 x16).f5) ((rd_T25 x1 x16).f6) ((rd_T25 x1 x16).f7))) else (table_Same.j1 k x0 x1 x15 x16 true ((rd_T25 x0 x16).f0) ((rd_T25 x0 x16).f1) ((rd_T25 x0 x16).f2) ((rd_T25 x0 x16).f3) ((rd_T25 x0 x16).f4) ((rd_T25 x0 x16).f5) ((rd_T25 x0 x16).f6) ((rd_T25 x0 x16).f7) ((rd_T25 x1 x16).f0) ((rd_T25 x1 x16).f1) ((rd_T25 x1 x16).f2) ((rd_T25 x1 x16).f3) ((rd_T25 x1 x16).f4) ((rd_T25 x1 x16).f5) ((rd_T25 x1 x16).f6) ((rd_T25 x1 x16).f7))) else (table_Same.j1 k x0 x1 x15 x16 true ((rd_T25 x0 x16).f0) ((rd_T25 x0 x16).f1) ((rd_T25 x0 x16).f2) ((rd_T25 x0 x16).f3) ((rd_T25 x0 x16).f4) ((rd_T25 x0 x16).f5) ((rd_T25 x0 x16).f6) ((rd_T25 x0 x16).f7) ((rd_T25 x1 x16).f0) ((rd_T25 x1 x16).f1) ((rd_T25 x1 x16).f2) ((rd_T25 x1 x16).f3) ((rd_T25 x1 x16).f4) ((rd_T25 x1 x16).f5) ((rd_T25 x1 x16).f6) ((rd_T25 x1 x16).f7))) else (table_Same.j1 k x0 x1 x15 x16 true ((rd_T25 x0 x16).f0) ((rd_T25 x0 x16).f1) ((rd_T25 x0 x16).f2) ((rd_T25 x0 x16).f3) ((rd_T25 x0 x16).f4) ((rd_T25 x0 x16).f5) ((rd_T25 x0 x16).f6) ((rd_T25 x0 x16).f7) ((rd_T25 x1 x16).f0) ((rd_T25 x1 x16).f1) ((rd_T25 x1 x16).f2) ((rd_T25 x1 x16).f3) ((rd_T25 x1 x16).f4) ((rd_T25 x1 x16).f5) ((rd_T25 x1 x16).f6) ((rd_T25 x1 x16).f7))) else (table_Same.j1 k x0 x1 x15 x16 true ((rd_T25 x0 x16).f0) ((rd_T25 x0 x16).f1) ((rd_T25 x0 x16).f2) ((rd_T25 x0 x16).f3) ((rd_T25 x0 x16).f4) ((rd_T25 x0 x16).f5) ((rd_T25 x0 x16).f6) ((rd_T25 x0 x16).f7) ((rd_T25 x1 x16).f0) ((rd_T25 x1 x16).f1) ((rd_T25 x1 x16).f2) ((rd_T25 x1 x16).f3) ((rd_T25 x1 x16).f4) ((rd_T25 x1 x16).f5) ((rd_T25 x1 x16).f6) ((rd_T25 x1 x16).f7))) else (table_Same.j1 k x0 x1 x15 x16 true ((rd_T25 x0 x16).f0) ((rd_T25 x0 x16).f1) ((rd_T25 x0 x16).f2) ((rd_T25 x0 x16).f3) ((rd_T25 x0 x16).f4) ((rd_T25 x0 x16).f5) ((rd_T25 x0 x16).f6) ((rd_T25 x0 x16).f7) ((rd_T25 x1 x16).f0) ((rd_T25 x1 x16).f1) ((rd_T25 x1 x16).f2) ((rd_T25 x1 x16).f3) ((rd_T25 x1 x16).f4) ((rd_T25 x1 x16).f5) ((rd_T25 x1 x16).f6) ((rd_T25 x1 x16).f7))) else (none)) else (none)) else (none)) else (some true)
def table_Same.j1 : Nat → List (S25) → List (S25) → Int → Int → Bool → Int → Int → Int → Int → List Int → ByteArray → ByteArray → Nat → Int → Int → Int → Int → List Int → ByteArray → ByteArray → Nat → Option (Bool)
 | 0, _, _, _, _, _, _, _, _, _, _, _, _, _, _, _, _, _, _, _, _, _ => none
 | k + 1, x0, x1, x15, x16, x84, x540000, x540001, x540002, x540003, x540004, x540005, x540006, x540007, x541000, x541001, x541002, x541003, x541004, x541005, x541006, x541007 => if x84 = true then (some false) else (table_Same.l1 k x0 x1 x15 x16 (x540004.length : Int) 0 x540000 x540001 x540002 x540003 x540004 x540005 x540006 x540007 x541000 x541001 x541002 x541003 x541004 x541005 x541006 x541007)
def table_Same.l1 : Nat → List (S25) → List (S25) → Int → Int → Int → Int → Int → Int → Int → Int → List Int → ByteArray → ByteArray → Nat → Int → Int → Int → Int → List Int → ByteArray → ByteArray → Nat → Option (Bool)
 | 0, _, _, _, _, _, _, _, _, _, _, _, _, _, _, _, _, _, _, _, _, _, _ => none
 | k + 1, x0, x1, x15, x16, x87, x88, x540000, x540001, x540002, x540003, x540004, x540005, x540006, x540007, x541000, x541001, x541002, x541003, x541004, x541005, x541006, x541007 => if x88 < x87 then (if 0 ≤ x88 then (if x88 < (x540004.length : Int) then (if x88 < (x541004.length : Int) then (if (rd x540004 x88) = (rd x541004 x88) then (table_Same.l1 k x0 x1 x15 x16 x87 (wrap64 (x88 + 1)) x540000 x540001 x540002 x540003 x540004 x540005 x540006 x540007 x541000 x541001 x541002 x541003 x541004 x541005 x541006 x541007) else (some false)) else (none)) else (none)) else (none)) else (table_Same.l0 k x0 x1 x15 (wrap64 (x16 + 1)))
end
def table_Same.f (k : Nat) (l0 : List (S25)) (l1 : List (S25)) : Option (Bool) := if (l0.length : Int) = (l1.length : Int) then (table_Same.l0 k l0 l1 (l0.length : Int) 0) else (some false)
theorem table_Same.mono_l : ∀ k, (∀ y0 y1 y2 y3, LeO (table_Same.l0 k y0 y1 y2 y3) (table_Same.l0 (k + 1) y0 y1 y2 y3)) ∧ (∀ y0 y1 y2 y3 y4 y5 y6 y7 y8 y9 y10 y11 y12 y13 y14 y15 y16 y17 y18 y19 y20, LeO (table_Same.j1 k y0 y1 y2 y3 y4 y5 y6 y7 y8 y9 y10 y11 y12 y13 y14 y15 y16 y17 y18 y19 y20) (table_Same.j1 (k + 1) y0 y1 y2 y3 y4 y5 y6 y7 y8 y9 y10 y11 y12 y13 y14 y15 y16 y17 y18 y19 y20)) ∧ (∀ y0 y1 y2 y3 y4 y5 y6 y7 y8 y9 y10 y11 y12 y13 y14 y15 y16 y17 y18 y19 y20 y21, LeO (table_Same.l1 k y0 y1 y2 y3 y4 y5 y6 y7 y8 y9 y10 y11 y12 y13 y14 y15 y16 y17 y18 y19 y20 y21) (table_Same.l1 (k + 1) y0 y1 y2 y3 y4 y5 y6 y7 y8 y9 y10 y11 y12 y13 y14 y15 y16 y17 y18 y19 y20 y21))
 | 0 => ⟨fun _ _ _ _ r h => by simp [table_Same.l0] at h, fun _ _ _ _ _ _ _ _ _ _ _ _ _ _ _ _ _ _ _ _ _ r h => by simp [table_Same.j1] at h, fun _ _ _ _ _ _ _ _ _ _ _ _ _ _ _ _ _ _ _ _ _ _ r h => by simp [table_Same.l1] at h⟩
 | k + 1 => by
  obtain ⟨ih0, ih1, ih2⟩ := table_Same.mono_l k
  refine ⟨?_, ?_, ?_⟩
  ·intro y0 y1 y2 y3
   unfold table_Same.l0
   repeat' first | (with_reducible first | apply ih0 | apply ih1 | apply ih2 | apply LeO.refl | apply LeO.none | refine LeO.ite ?_ ?_ | refine LeO.bind ?_ (fun _ => ?_)) | apply LeO.none | refine LeO.ite ?_ ?_ | refine LeO.bind ?_ (fun _ => ?_)
  ·intro y0 y1 y2 y3 y4 y5 y6 y7 y8 y9 y10 y11 y12 y13 y14 y15 y16 y17 y18 y19 y20
   unfold table_Same.j1
   repeat' first | (with_reducible first | apply ih0 | apply ih1 | apply ih2 | apply LeO.refl | apply LeO.none | refine LeO.ite ?_ ?_ | refine LeO.bind ?_ (fun _ => ?_)) | apply LeO.none | refine LeO.ite ?_ ?_ | refine LeO.bind ?_ (fun _ => ?_)
  intro y0 y1 y2 y3 y4 y5 y6 y7 y8 y9 y10 y11 y12 y13 y14 y15 y16 y17 y18 y19 y20 y21
  unfold table_Same.l1
  repeat' first | (with_reducible first | apply ih0 | apply ih1 | apply ih2 | apply LeO.refl | apply LeO.none | refine LeO.ite ?_ ?_ | refine LeO.bind ?_ (fun _ => ?_)) | apply LeO.none | refine LeO.ite ?_ ?_ | refine LeO.bind ?_ (fun _ => ?_)
theorem table_Same.mono : ∀ a0 a1 k, LeO (table_Same.f k a0 a1) (table_Same.f (k + 1) a0 a1) := by
 intro a0 a1 k
 obtain ⟨ih0, ih1, ih2⟩ := table_Same.mono_l k
 unfold table_Same.f
 repeat' first | (with_reducible first | apply ih0 | apply ih1 | apply ih2 | apply LeO.refl | apply LeO.none | refine LeO.ite ?_ ?_ | refine LeO.bind ?_ (fun _ => ?_)) | apply LeO.none | refine LeO.ite ?_ ?_ | refine LeO.bind ?_ (fun _ => ?_)
def table_Same.T6 : Bool × List (List Nat × List Nat) := (true, [([], []), ([], []), ([0, 1], [0, 1]), ([2], [2]), ([], []), ([], []), ([4, 5], [4, 5]), ([6], [6]), ([], []), ([], []), ([8, 3, 0, 1, 2, 3, 8, 9], [3, 8]), ([9, 7, 10, 0, 1, 2, 3, 4, 5, 6, 7, 8, 9, 10], [7, 9])])
def table_Same.B6 : List Nat := [0, 0, 3, 7, 0, 0, 48, 112, 0, 0, 783, 2047]
theorem table_Same.tab6 : rtab .any (opsOf Tryz.f34 6) = table_Same.T6 := by kernel_rfl
theorem table_Same.bits6 : waitsOk table_Same.T6.2 table_Same.B6 = true := by kernel_rfl
def table_Same.T7 : Bool × List (List Nat × List Nat) := (true, [([], []), ([0], [0]), ([], []), ([2], [2]), ([1, 3], [1, 3]), ([4], [4]), ([5], [5]), ([6, 5], [5, 6]), ([5], [5]), ([8, 5], [5, 8]), ([7, 9, 5], [5, 7, 9]), ([5, 10], [5, 10]), ([11, 5], [11]), ([12], [12]), ([13, 12], [12, 13]), ([12], [12]), ([15, 12], [12, 15]), ([14, 16, 12], [12, 14, 16]), ([12, 17], [12, 17]), ([18, 12], [18]), ([19], [19]), ([20, 19], [19, 20]), ([19], [19]), ([22, 19], [19, 22]), ([21, 23, 19], [19, 21, 23]), ([19, 24], [19, 24]), ([25, 19], [25]), ([26], [26]), ([27, 26], [26, 27]), ([26], [26]), ([29, 26], [26, 29]), ([28, 30, 26], [26, 28, 30]), ([26, 31], [26, 31]), ([32, 26], [32]), ([33], [33]), ([34, 33], [33, 34]), ([33], [33]), ([36, 33], [33, 36]), ([35, 37, 33], [33, 35, 37]), ([33, 38], [33, 38]), ([39, 33], [39]), ([40], [40]), ([41, 40], [40, 41]), ([42, 40, 40], [40, 42]), ([40], [40]), ([44, 40], [40, 44]), ([45, 43, 40], [40, 45]), ([43, 46, 40], [40, 43, 46]), ([40, 47], [40, 47]), ([48, 46], [48]), ([49], [49]), ([50, 49], [49, 50]), ([51, 49], [49, 51]), ([49], [49]), ([53, 49], [49, 53]), ([54, 49], [49, 54]), ([52, 55, 49], [49, 52, 55]), ([49, 56], [49, 56])])
def table_Same.B7 : List Nat := [0, 1, 0, 4, 15, 31, 63, 127, 63, 319, 1023, 2047, 4095, 8191, 16383, 8191, 40959, 131071, 262143, 524287, 1048575, 2097151, 1048575, 5242879, 16777215, 33554431, 67108863, 134217727, 268435455, 134217727, 671088639, 2147483647, 4294967295, 8589934591, 17179869183, 34359738367, 17179869183, 85899345919, 274877906943, 549755813887, 1099511627775, 2199023255551, 4398046511103, 8796093022207, 2199023255551, 19791209299967, 70368744177663, 140737488355327, 281474976710655, 562949953421311, 1125899906842623, 2251799813685247, 4503599627370495, 1125899906842623, 10133099161583615, 28147497671065599, 72057594037927935, 144115188075855871]
theorem table_Same.tab7 : rtab .any (opsOf Tryz.f34 7) = table_Same.T7 := by kernel_rfl
theorem table_Same.bits7 : waitsOk table_Same.T7.2 table_Same.B7 = true := by kernel_rfl
def table_Same.T12 : Bool × List (List Nat × List Nat) := (true, [([], []), ([0], [0]), ([], []), ([1, 2], [1, 2]), ([3], [3]), ([], []), ([5], [5]), ([], []), ([6, 7], [6, 7]), ([8], [8]), ([4, 9], [4, 9])])
def table_Same.B12 : List Nat := [0, 1, 0, 7, 15, 0, 32, 0, 224, 480, 1023]
theorem table_Same.tab12 : rtab .any (opsOf Tryz.f34 12) = table_Same.T12 := by kernel_rfl
theorem table_Same.bits12 : waitsOk table_Same.T12.2 table_Same.B12 = true := by kernel_rfl
theorem table_Same.calls (k : Nat) (A0 : Option Addr) (c0 : Nat) (l0 : List (S25)) (A1 : Option Addr) (c1 : Nat) (l1 : List (S25)) (r : Bool) (w : World) (hr0 : Kd.C k25 w A0 l0.length l0) (hc0 : l0.length ≤ c0) (hr1 : Kd.C k25 w A1 l1.length l1) (hc1 : l1.length ≤ c1) (h : table_Same.f k l0 l1 = some r) :
  Calls Tryz.prog 34 #[.slice A0 l0.length c0, .slice A1 l1.length c1] w fun e w' => e = .returned (.bool r) ∧ Below w.heap.size w w' := by
 have hu25 := Tryz.underlying25
 have HR0 := Aside0.mk hr0
 have HC0 := Aside0.mk hc0
 clear hr0 hc0
 have HR1 := Aside0.mk hr1
 have HC1 := Aside0.mk hc1
 clear hr1 hc1
 have HB := Aside0.mk (Below.refl w.heap.size w)
 have H : (if (l0.length : Int) = (l1.length : Int) then (table_Same.l0 k l0 l1 (l0.length : Int) 0) else (some false)) = some r := h
 clear h
 by_cases c3 : (l0.length : Int) = (l1.length : Int)
 case neg =>
  rw [if_neg c3] at H
  have c3b0 := beq_eq_false_iff_ne.mpr c3
  have c3b1 := bne_iff_ne.mpr c3
  have c3b2 : (l0.length == l1.length) = false := by first | simpa using c3 | (simp at c3 ⊢; omega)
  obtain rfl := Option.some.inj H
  go_enter Tryz.func34, Tryz.ntmps34
  go_wp2
  go_ret
  exact ⟨sqE', sqB⟩
 rw [if_pos c3] at H
 have c3b0 := beq_iff_eq.mpr c3
 have c3b1 := bne_eq_false_iff_eq.mpr c3
 have c3b2 : (l0.length == l1.length) = true := by first | simpa using c3 | (simp at c3 ⊢; omega)
 clear c3
 have H' := Aside0.mk H
 clear H
 go_enter Tryz.func34, Tryz.ntmps34
 go_wp2
 go_loopg [16] k (fun kq v16 w' => ∃ (x16_1 : Int), v16 = .int .i64 x16_1 ∧ Aside0 (table_Same.l0 kq l0 l1 (l0.length : Int) x16_1 = some r) ∧ Aside0 (kq ≤ k) ∧ Aside0 (Below w.heap.size w w'))
 case atStart => exact ⟨(0), sqE, H', ⟨Nat.le_refl _⟩, ⟨sqB⟩⟩
 case round =>
  clear H'
  try clear c1
  try clear p2
  try clear c3
  try clear c3b0
  try clear c3b1
  try clear c3b2
  obtain ⟨x16_1, rfl, HA, HK1, HB⟩ := hrel
  cases gk with
  | zero => exact absurd HA.out (by simp [table_Same.l0])
  | succ k1 =>
   have H := HA.out
   clear HA
   simp only [table_Same.l0] at H
   by_cases c4 : x16_1 < (l0.length : Int)
   case neg =>
    rw [if_neg c4] at H
    have c4b0 := decide_eq_false c4
    clear c4
    obtain rfl := Option.some.inj H
    go_wp2
    go_ret
    exact ⟨sqE', sqB⟩
   rw [if_pos c4] at H
   have c4b0 := decide_eq_true c4
   clear c4
   by_cases c5 : 0 ≤ x16_1
   case neg => rw [if_neg c5] at H; exact absurd H (by simp)
   rw [if_pos c5] at H
   have c5b0 := decide_eq_true c5
   clear c5
   by_cases c6 : x16_1 < (l0.length : Int)
   case neg => rw [if_neg c6] at H; exact absurd H (by simp)
   rw [if_pos c6] at H
   have c6b0 := decide_eq_true c6
   clear c6
   by_cases c7 : x16_1 < (l1.length : Int)
   case neg => rw [if_neg c7] at H; exact absurd H (by simp)
   rw [if_pos c7] at H
   have c7b0 := decide_eq_true c7
   clear c7
   have HC8 := Aside0.mk H
   clear H
   try go_wp2
   have n0_ := Aside0.mk (below_drew1 HB.out)
   clear HB
   have HB := n0_
   clear n0_
   have p537 : 0 ≤ (x16_1 : Int) := sqD
   have q537 : x16_1 < (l0.length : Int) := sqD
   obtain ⟨ad537, A537_4, c537_4, e537, hx537_0, hx537_1, hx537_2, hx537_3, hx537_4, hx537_5, hx537_6, hx537_7, hl537_4, hi537_4⟩ := at_T25 HR0.out x16_1 p537 q537
   have hw537_7 := hx537_7
   have hw537_6 := hx537_6
   have hw537_5 := hx537_5
   have hw537_4 := hx537_4
   have hw537_3 := hx537_3
   have hw537_2 := hx537_2
   have hw537_1 := hx537_1
   have hw537_0 := hx537_0
   cases e537
   replace hx537_0 := (HB.out.cell (World.block_lt_of_cell? w _ hx537_0)).trans hx537_0
   replace hx537_1 := (HB.out.cell (World.block_lt_of_cell? w _ hx537_1)).trans hx537_1
   replace hx537_2 := (HB.out.cell (World.block_lt_of_cell? w _ hx537_2)).trans hx537_2
   replace hx537_3 := (HB.out.cell (World.block_lt_of_cell? w _ hx537_3)).trans hx537_3
   replace hx537_4 := (HB.out.cell (World.block_lt_of_cell? w _ hx537_4)).trans hx537_4
   replace hx537_5 := (HB.out.cell (World.block_lt_of_cell? w _ hx537_5)).trans hx537_5
   replace hx537_6 := (HB.out.cell (World.block_lt_of_cell? w _ hx537_6)).trans hx537_6
   replace hx537_7 := (HB.out.cell (World.block_lt_of_cell? w _ hx537_7)).trans hx537_7
   have HR537_4 := Aside0.mk hi537_4
   have HC537_4 := Aside0.mk hl537_4
   clear hi537_4 hl537_4
   replace p537 := eq_true p537
   replace q537 := eq_true q537
   have p538 : 0 ≤ (x16_1 : Int) := sqD
   have q538 : x16_1 < (l1.length : Int) := sqD
   obtain ⟨ad538, A538_4, c538_4, e538, hx538_0, hx538_1, hx538_2, hx538_3, hx538_4, hx538_5, hx538_6, hx538_7, hl538_4, hi538_4⟩ := at_T25 HR1.out x16_1 p538 q538
   have hw538_7 := hx538_7
   have hw538_6 := hx538_6
   have hw538_5 := hx538_5
   have hw538_4 := hx538_4
   have hw538_3 := hx538_3
   have hw538_2 := hx538_2
   have hw538_1 := hx538_1
   have hw538_0 := hx538_0
   cases e538
   replace hx538_0 := (HB.out.cell (World.block_lt_of_cell? w _ hx538_0)).trans hx538_0
   replace hx538_1 := (HB.out.cell (World.block_lt_of_cell? w _ hx538_1)).trans hx538_1
   replace hx538_2 := (HB.out.cell (World.block_lt_of_cell? w _ hx538_2)).trans hx538_2
   replace hx538_3 := (HB.out.cell (World.block_lt_of_cell? w _ hx538_3)).trans hx538_3
   replace hx538_4 := (HB.out.cell (World.block_lt_of_cell? w _ hx538_4)).trans hx538_4
   replace hx538_5 := (HB.out.cell (World.block_lt_of_cell? w _ hx538_5)).trans hx538_5
   replace hx538_6 := (HB.out.cell (World.block_lt_of_cell? w _ hx538_6)).trans hx538_6
   replace hx538_7 := (HB.out.cell (World.block_lt_of_cell? w _ hx538_7)).trans hx538_7
   have HR538_4 := Aside0.mk hi538_4
   have HC538_4 := Aside0.mk hl538_4
   clear hi538_4 hl538_4
   replace p538 := eq_true p538
   replace q538 := eq_true q538
   refine start_ (n := 12) (S := fun w' => w'.cell? (ad537.add ((x16_1).toNat * 8)) = some (.int .i64 ((rd_T25 l0 x16_1).f0)) ∧ w'.cell? ⟨(ad537.add ((x16_1).toNat * 8)).block, (ad537.add ((x16_1).toNat * 8)).off + 1, none⟩ = some (.int .i64 ((rd_T25 l0 x16_1).f1)) ∧ w'.cell? ⟨(ad537.add ((x16_1).toNat * 8)).block, (ad537.add ((x16_1).toNat * 8)).off + 2, none⟩ = some (.int .i64 ((rd_T25 l0 x16_1).f2)) ∧ w'.cell? ⟨(ad537.add ((x16_1).toNat * 8)).block, (ad537.add ((x16_1).toNat * 8)).off + 3, none⟩ = some (.int .i64 ((rd_T25 l0 x16_1).f3)) ∧ w'.cell? ⟨(ad537.add ((x16_1).toNat * 8)).block, (ad537.add ((x16_1).toNat * 8)).off + 4, none⟩ = some (.slice A537_4 ((rd_T25 l0 x16_1).f4).length c537_4) ∧ w'.cell? ⟨(ad537.add ((x16_1).toNat * 8)).block, (ad537.add ((x16_1).toNat * 8)).off + 5, none⟩ = some (.string ((rd_T25 l0 x16_1).f5)) ∧ w'.cell? ⟨(ad537.add ((x16_1).toNat * 8)).block, (ad537.add ((x16_1).toNat * 8)).off + 6, none⟩ = some (.string ((rd_T25 l0 x16_1).f6)) ∧ w'.cell? ⟨(ad537.add ((x16_1).toNat * 8)).block, (ad537.add ((x16_1).toNat * 8)).off + 7, none⟩ = some (.float .f64 ((rd_T25 l0 x16_1).f7)) ∧ w'.cell? (ad538.add ((x16_1).toNat * 8)) = some (.int .i64 ((rd_T25 l1 x16_1).f0)) ∧ w'.cell? ⟨(ad538.add ((x16_1).toNat * 8)).block, (ad538.add ((x16_1).toNat * 8)).off + 1, none⟩ = some (.int .i64 ((rd_T25 l1 x16_1).f1)) ∧ w'.cell? ⟨(ad538.add ((x16_1).toNat * 8)).block, (ad538.add ((x16_1).toNat * 8)).off + 2, none⟩ = some (.int .i64 ((rd_T25 l1 x16_1).f2)) ∧ w'.cell? ⟨(ad538.add ((x16_1).toNat * 8)).block, (ad538.add ((x16_1).toNat * 8)).off + 3, none⟩ = some (.int .i64 ((rd_T25 l1 x16_1).f3)) ∧ w'.cell? ⟨(ad538.add ((x16_1).toNat * 8)).block, (ad538.add ((x16_1).toNat * 8)).off + 4, none⟩ = some (.slice A538_4 ((rd_T25 l1 x16_1).f4).length c538_4) ∧ w'.cell? ⟨(ad538.add ((x16_1).toNat * 8)).block, (ad538.add ((x16_1).toNat * 8)).off + 5, none⟩ = some (.string ((rd_T25 l1 x16_1).f5)) ∧ w'.cell? ⟨(ad538.add ((x16_1).toNat * 8)).block, (ad538.add ((x16_1).toNat * 8)).off + 6, none⟩ = some (.string ((rd_T25 l1 x16_1).f6)) ∧ w'.cell? ⟨(ad538.add ((x16_1).toNat * 8)).block, (ad538.add ((x16_1).toNat * 8)).off + 7, none⟩ = some (.float .f64 ((rd_T25 l1 x16_1).f7))) (ds := []) (bm 12 0) (by kernel_rfl) rfl rfl ⟨((HB.out.cell (World.block_lt_of_cell? w _ hw537_0)).trans hw537_0), ((HB.out.cell (World.block_lt_of_cell? w _ hw537_1)).trans hw537_1), ((HB.out.cell (World.block_lt_of_cell? w _ hw537_2)).trans hw537_2), ((HB.out.cell (World.block_lt_of_cell? w _ hw537_3)).trans hw537_3), ((HB.out.cell (World.block_lt_of_cell? w _ hw537_4)).trans hw537_4), ((HB.out.cell (World.block_lt_of_cell? w _ hw537_5)).trans hw537_5), ((HB.out.cell (World.block_lt_of_cell? w _ hw537_6)).trans hw537_6), ((HB.out.cell (World.block_lt_of_cell? w _ hw537_7)).trans hw537_7), ((HB.out.cell (World.block_lt_of_cell? w _ hw538_0)).trans hw538_0), ((HB.out.cell (World.block_lt_of_cell? w _ hw538_1)).trans hw538_1), ((HB.out.cell (World.block_lt_of_cell? w _ hw538_2)).trans hw538_2), ((HB.out.cell (World.block_lt_of_cell? w _ hw538_3)).trans hw538_3), ((HB.out.cell (World.block_lt_of_cell? w _ hw538_4)).trans hw538_4), ((HB.out.cell (World.block_lt_of_cell? w _ hw538_5)).trans hw538_5), ((HB.out.cell (World.block_lt_of_cell? w _ hw538_6)).trans hw538_6), ((HB.out.cell (World.block_lt_of_cell? w _ hw538_7)).trans hw538_7)⟩ (fun hHeld => ?_); refine with_tabW table_Same.tab6 table_Same.bits6 (fun HT_ HW_ => ?_)
   generalize wr.drew = w9 at HB HR537_4 HR538_4 hx537_0 hx537_1 hx537_2 hx537_3 hx537_4 hx537_5 hx537_6 hx537_7 hx538_0 hx538_1 hx538_2 hx538_3 hx538_4 hx538_5 hx538_6 hx538_7 hHeld ⊢
   refine sqP 0 (some 19) (bm 12 1) ?_
   refine sqP 1 (some 20) (bm 12 3) ?_
   refine sqP 2 (some 21) (bm 12 7) ?_
   refine sqP 4 (some 23) (bm 12 23) ?_
   refine sqP 5 (some 24) (bm 12 55) ?_
   refine sqP 6 (some 25) (bm 12 119) ?_
   refine sqT 3 (some 22) (bm 12 127) ?_
   refine sqT 7 (some 26) (bm 12 255) ?_
   refine join_ (σ := Nat × Nat) 2 (bm 12 1023) (fun s_ => [(6, .pointer (some ⟨s_.1, 0, none⟩)), (7, .pointer (some ⟨s_.2, 0, none⟩))]) (fun s_ w' => (w'.cell? (ad537.add ((x16_1).toNat * 8)) = some (.int .i64 ((rd_T25 l0 x16_1).f0)) ∧ w'.cell? ⟨(ad537.add ((x16_1).toNat * 8)).block, (ad537.add ((x16_1).toNat * 8)).off + 1, none⟩ = some (.int .i64 ((rd_T25 l0 x16_1).f1)) ∧ w'.cell? ⟨(ad537.add ((x16_1).toNat * 8)).block, (ad537.add ((x16_1).toNat * 8)).off + 2, none⟩ = some (.int .i64 ((rd_T25 l0 x16_1).f2)) ∧ w'.cell? ⟨(ad537.add ((x16_1).toNat * 8)).block, (ad537.add ((x16_1).toNat * 8)).off + 3, none⟩ = some (.int .i64 ((rd_T25 l0 x16_1).f3)) ∧ w'.cell? ⟨(ad537.add ((x16_1).toNat * 8)).block, (ad537.add ((x16_1).toNat * 8)).off + 4, none⟩ = some (.slice A537_4 ((rd_T25 l0 x16_1).f4).length c537_4) ∧ w'.cell? ⟨(ad537.add ((x16_1).toNat * 8)).block, (ad537.add ((x16_1).toNat * 8)).off + 5, none⟩ = some (.string ((rd_T25 l0 x16_1).f5)) ∧ w'.cell? ⟨(ad537.add ((x16_1).toNat * 8)).block, (ad537.add ((x16_1).toNat * 8)).off + 6, none⟩ = some (.string ((rd_T25 l0 x16_1).f6)) ∧ w'.cell? ⟨(ad537.add ((x16_1).toNat * 8)).block, (ad537.add ((x16_1).toNat * 8)).off + 7, none⟩ = some (.float .f64 ((rd_T25 l0 x16_1).f7)) ∧ w'.cell? (ad538.add ((x16_1).toNat * 8)) = some (.int .i64 ((rd_T25 l1 x16_1).f0)) ∧ w'.cell? ⟨(ad538.add ((x16_1).toNat * 8)).block, (ad538.add ((x16_1).toNat * 8)).off + 1, none⟩ = some (.int .i64 ((rd_T25 l1 x16_1).f1)) ∧ w'.cell? ⟨(ad538.add ((x16_1).toNat * 8)).block, (ad538.add ((x16_1).toNat * 8)).off + 2, none⟩ = some (.int .i64 ((rd_T25 l1 x16_1).f2)) ∧ w'.cell? ⟨(ad538.add ((x16_1).toNat * 8)).block, (ad538.add ((x16_1).toNat * 8)).off + 3, none⟩ = some (.int .i64 ((rd_T25 l1 x16_1).f3)) ∧ w'.cell? ⟨(ad538.add ((x16_1).toNat * 8)).block, (ad538.add ((x16_1).toNat * 8)).off + 4, none⟩ = some (.slice A538_4 ((rd_T25 l1 x16_1).f4).length c538_4) ∧ w'.cell? ⟨(ad538.add ((x16_1).toNat * 8)).block, (ad538.add ((x16_1).toNat * 8)).off + 5, none⟩ = some (.string ((rd_T25 l1 x16_1).f5)) ∧ w'.cell? ⟨(ad538.add ((x16_1).toNat * 8)).block, (ad538.add ((x16_1).toNat * 8)).off + 6, none⟩ = some (.string ((rd_T25 l1 x16_1).f6)) ∧ w'.cell? ⟨(ad538.add ((x16_1).toNat * 8)).block, (ad538.add ((x16_1).toNat * 8)).off + 7, none⟩ = some (.float .f64 ((rd_T25 l1 x16_1).f7))) ∧ (w'.heap[s_.1]? = some (.cells #[.int .i64 0, .int .i64 0, .int .i64 0, .int .i64 0, .slice none 0 0, .string (⟨#[]⟩ : ByteArray), .string (⟨#[]⟩ : ByteArray), .float .f64 (0 : Nat)] 25 (0, 0))) ∧ (w'.heap[s_.2]? = some (.cells #[.int .i64 0, .int .i64 0, .int .i64 0, .int .i64 0, .slice none 0 0, .string (⟨#[]⟩ : ByteArray), .string (⟨#[]⟩ : ByteArray), .float .f64 (0 : Nat)] 25 (0, 0))) ∧ (w.heap.size ≤ s_.1) ∧ (w.heap.size ≤ s_.1) ∧ (s_.2 ≠ s_.1) ∧ (s_.1 ≠ s_.2) ∧ (w.heap.size ≤ s_.2) ∧ (w.heap.size ≤ s_.2) ∧ (Below w.heap.size w w')) ?_ ?_
   rotate_left
   ·intro hCont
    refine two_ (i := 8) (j := 9) (Ni := some 6) (Nj := some 7) (bm 12 511) (bm 12 767) rfl rfl rfl rfl (two_of HT_.out (by kernel_rfl)) (by decide) (by decide) (fun K hK => ?_) (fun K hK => ?_)
    ·skip
     refine box_step ?hg (N := 6) ?hd (cs := #[.int .i64 0, .int .i64 0, .int .i64 0, .int .i64 0, .slice none 0 0, .string (⟨#[]⟩ : ByteArray), .string (⟨#[]⟩ : ByteArray), .float .f64 (0 : Nat)]) (t := 25) ?hr ?_; (case hd => rfl); (case hg => rfl); (case hr => first | (go_simp; done) | (go_simp; rfl))
     intro gb539 hg w10 hbox hb
     have n0_ := Aside0.mk (below_step sqB hb)
     have n1_ := Aside0.mk (hbox)
     have n2_ := Aside0.mk ((by rw [hg]; exact (below_size sqB) : w.heap.size ≤ gb539))
     have n3_ := Aside0.mk ((by rw [hg]; exact (below_size sqB) : w.heap.size ≤ gb539))
     clear HB
     have HB := n0_
     have BK539 := n1_
     have GW539 := n2_
     have GE539 := n3_
     clear n0_ n1_ n2_ n3_
     clear hb hbox hg
     refine hK.out _ _ ⟨((HB.out.cell (World.block_lt_of_cell? w _ hw537_0)).trans hw537_0), ((HB.out.cell (World.block_lt_of_cell? w _ hw537_1)).trans hw537_1), ((HB.out.cell (World.block_lt_of_cell? w _ hw537_2)).trans hw537_2), ((HB.out.cell (World.block_lt_of_cell? w _ hw537_3)).trans hw537_3), ((HB.out.cell (World.block_lt_of_cell? w _ hw537_4)).trans hw537_4), ((HB.out.cell (World.block_lt_of_cell? w _ hw537_5)).trans hw537_5), ((HB.out.cell (World.block_lt_of_cell? w _ hw537_6)).trans hw537_6), ((HB.out.cell (World.block_lt_of_cell? w _ hw537_7)).trans hw537_7), ((HB.out.cell (World.block_lt_of_cell? w _ hw538_0)).trans hw538_0), ((HB.out.cell (World.block_lt_of_cell? w _ hw538_1)).trans hw538_1), ((HB.out.cell (World.block_lt_of_cell? w _ hw538_2)).trans hw538_2), ((HB.out.cell (World.block_lt_of_cell? w _ hw538_3)).trans hw538_3), ((HB.out.cell (World.block_lt_of_cell? w _ hw538_4)).trans hw538_4), ((HB.out.cell (World.block_lt_of_cell? w _ hw538_5)).trans hw538_5), ((HB.out.cell (World.block_lt_of_cell? w _ hw538_6)).trans hw538_6), ((HB.out.cell (World.block_lt_of_cell? w _ hw538_7)).trans hw538_7)⟩ (fun hHeld => ?_)
     clear hK K
     refine sqN 6 ?_
     refine sqI 9 (some 7) (bm 12 1023) (fun K hK => ?_)
     refine box_step ?hg (N := 7) ?hd (cs := #[.int .i64 0, .int .i64 0, .int .i64 0, .int .i64 0, .slice none 0 0, .string (⟨#[]⟩ : ByteArray), .string (⟨#[]⟩ : ByteArray), .float .f64 (0 : Nat)]) (t := 25) ?hr ?_; (case hd => rfl); (case hg => rfl); (case hr => first | (go_simp; done) | (go_simp; rfl))
     intro gb540 hg w11 hbox hb
     have n0_ := Aside0.mk (blk_below (g := gb539) (o := .cells #[.int .i64 0, .int .i64 0, .int .i64 0, .int .i64 0, .slice none 0 0, .string (⟨#[]⟩ : ByteArray), .string (⟨#[]⟩ : ByteArray), .float .f64 (0 : Nat)] 25 (0, 0)) (by (with_reducible repeat (first | refine blk_drewN ?_ _ | refine blk_drew ?_ | refine blk_alloc ?_ _)); exact BK539.out) hb)
     have n1_ := Aside0.mk (below_step (by repeat (first | (with_reducible first | exact HB.out | apply below_alloc | apply pw_below_drewN | apply below_drew1 | refine below_set ?_ GE539.out) | exact HB.out)) hb)
     have n2_ := Aside0.mk (hbox)
     have n3_ := Aside0.mk ((by rw [hg]; exact (below_size (by repeat (first | (with_reducible first | exact HB.out | apply below_alloc | apply pw_below_drewN | apply below_drew1 | refine below_set ?_ GE539.out) | exact HB.out))) : w.heap.size ≤ gb540))
     have n4_ := Aside0.mk ((by rw [hg]; exact (below_size (by repeat (first | (with_reducible first | exact HB.out | apply below_alloc | apply pw_below_drewN | apply below_drew1 | refine below_set ?_ GE539.out) | exact HB.out))) : w.heap.size ≤ gb540))
     have n5_ := Aside0.mk ((by rw [hg]; exact Nat.ne_of_lt (blk_lt (g := gb539) (o := .cells #[.int .i64 0, .int .i64 0, .int .i64 0, .int .i64 0, .slice none 0 0, .string (⟨#[]⟩ : ByteArray), .string (⟨#[]⟩ : ByteArray), .float .f64 (0 : Nat)] 25 (0, 0)) (by (with_reducible repeat (first | refine blk_drewN ?_ _ | refine blk_drew ?_ | refine blk_alloc ?_ _)); exact BK539.out)) : gb539 ≠ gb540))
     have n6_ := Aside0.mk ((by rw [hg]; exact Nat.ne_of_gt (blk_lt (g := gb539) (o := .cells #[.int .i64 0, .int .i64 0, .int .i64 0, .int .i64 0, .slice none 0 0, .string (⟨#[]⟩ : ByteArray), .string (⟨#[]⟩ : ByteArray), .float .f64 (0 : Nat)] 25 (0, 0)) (by (with_reducible repeat (first | refine blk_drewN ?_ _ | refine blk_drew ?_ | refine blk_alloc ?_ _)); exact BK539.out)) : gb540 ≠ gb539))
     clear BK539
     clear HB
     have BK539 := n0_
     have HB := n1_
     have BK540 := n2_
     have GW540 := n3_
     have GE540 := n4_
     have NB539_540 := n5_
     have NB540_539 := n6_
     clear n0_ n1_ n2_ n3_ n4_ n5_ n6_
     clear hb hbox hg
     refine hK.out _ _ ⟨((HB.out.cell (World.block_lt_of_cell? w _ hw537_0)).trans hw537_0), ((HB.out.cell (World.block_lt_of_cell? w _ hw537_1)).trans hw537_1), ((HB.out.cell (World.block_lt_of_cell? w _ hw537_2)).trans hw537_2), ((HB.out.cell (World.block_lt_of_cell? w _ hw537_3)).trans hw537_3), ((HB.out.cell (World.block_lt_of_cell? w _ hw537_4)).trans hw537_4), ((HB.out.cell (World.block_lt_of_cell? w _ hw537_5)).trans hw537_5), ((HB.out.cell (World.block_lt_of_cell? w _ hw537_6)).trans hw537_6), ((HB.out.cell (World.block_lt_of_cell? w _ hw537_7)).trans hw537_7), ((HB.out.cell (World.block_lt_of_cell? w _ hw538_0)).trans hw538_0), ((HB.out.cell (World.block_lt_of_cell? w _ hw538_1)).trans hw538_1), ((HB.out.cell (World.block_lt_of_cell? w _ hw538_2)).trans hw538_2), ((HB.out.cell (World.block_lt_of_cell? w _ hw538_3)).trans hw538_3), ((HB.out.cell (World.block_lt_of_cell? w _ hw538_4)).trans hw538_4), ((HB.out.cell (World.block_lt_of_cell? w _ hw538_5)).trans hw538_5), ((HB.out.cell (World.block_lt_of_cell? w _ hw538_6)).trans hw538_6), ((HB.out.cell (World.block_lt_of_cell? w _ hw538_7)).trans hw538_7)⟩ (fun hHeld => ?_)
     clear hK K
     refine sqN 7 ?_
     exact norm_ (by simp only [putAll, Act.put, List.setIfInBounds_toArray, List.set_cons_zero, List.set_cons_succ]) (hCont (gb539, gb540) _ ⟨hHeld, (by (with_reducible repeat (first | refine blk_drewN ?_ _ | refine blk_drew ?_ | refine blk_alloc ?_ _)); exact BK539.out), (by (with_reducible repeat (first | refine blk_drewN ?_ _ | refine blk_drew ?_ | refine blk_alloc ?_ _)); exact BK540.out), GW539.out, GE539.out, NB540_539.out, NB539_540.out, GW540.out, GE540.out, (by repeat (first | (with_reducible first | exact HB.out | apply below_alloc | apply pw_below_drewN | apply below_drew1 | refine below_set ?_ GE539.out | refine below_set ?_ GE540.out) | exact HB.out))⟩)
    skip
    refine box_step ?hg (N := 7) ?hd (cs := #[.int .i64 0, .int .i64 0, .int .i64 0, .int .i64 0, .slice none 0 0, .string (⟨#[]⟩ : ByteArray), .string (⟨#[]⟩ : ByteArray), .float .f64 (0 : Nat)]) (t := 25) ?hr ?_; (case hd => rfl); (case hg => rfl); (case hr => first | (go_simp; done) | (go_simp; rfl))
    intro gb540 hg w10 hbox hb
    have n0_ := Aside0.mk (below_step sqB hb)
    have n1_ := Aside0.mk (hbox)
    have n2_ := Aside0.mk ((by rw [hg]; exact (below_size sqB) : w.heap.size ≤ gb540))
    have n3_ := Aside0.mk ((by rw [hg]; exact (below_size sqB) : w.heap.size ≤ gb540))
    clear HB
    have HB := n0_
    have BK540 := n1_
    have GW540 := n2_
    have GE540 := n3_
    clear n0_ n1_ n2_ n3_
    clear hb hbox hg
    refine hK.out _ _ ⟨((HB.out.cell (World.block_lt_of_cell? w _ hw537_0)).trans hw537_0), ((HB.out.cell (World.block_lt_of_cell? w _ hw537_1)).trans hw537_1), ((HB.out.cell (World.block_lt_of_cell? w _ hw537_2)).trans hw537_2), ((HB.out.cell (World.block_lt_of_cell? w _ hw537_3)).trans hw537_3), ((HB.out.cell (World.block_lt_of_cell? w _ hw537_4)).trans hw537_4), ((HB.out.cell (World.block_lt_of_cell? w _ hw537_5)).trans hw537_5), ((HB.out.cell (World.block_lt_of_cell? w _ hw537_6)).trans hw537_6), ((HB.out.cell (World.block_lt_of_cell? w _ hw537_7)).trans hw537_7), ((HB.out.cell (World.block_lt_of_cell? w _ hw538_0)).trans hw538_0), ((HB.out.cell (World.block_lt_of_cell? w _ hw538_1)).trans hw538_1), ((HB.out.cell (World.block_lt_of_cell? w _ hw538_2)).trans hw538_2), ((HB.out.cell (World.block_lt_of_cell? w _ hw538_3)).trans hw538_3), ((HB.out.cell (World.block_lt_of_cell? w _ hw538_4)).trans hw538_4), ((HB.out.cell (World.block_lt_of_cell? w _ hw538_5)).trans hw538_5), ((HB.out.cell (World.block_lt_of_cell? w _ hw538_6)).trans hw538_6), ((HB.out.cell (World.block_lt_of_cell? w _ hw538_7)).trans hw538_7)⟩ (fun hHeld => ?_)
    clear hK K
    refine sqN 7 ?_
    refine sqI 8 (some 6) (bm 12 1023) (fun K hK => ?_)
    refine box_step ?hg (N := 6) ?hd (cs := #[.int .i64 0, .int .i64 0, .int .i64 0, .int .i64 0, .slice none 0 0, .string (⟨#[]⟩ : ByteArray), .string (⟨#[]⟩ : ByteArray), .float .f64 (0 : Nat)]) (t := 25) ?hr ?_; (case hd => rfl); (case hg => rfl); (case hr => first | (go_simp; done) | (go_simp; rfl))
    intro gb539 hg w11 hbox hb
    have n0_ := Aside0.mk (blk_below (g := gb540) (o := .cells #[.int .i64 0, .int .i64 0, .int .i64 0, .int .i64 0, .slice none 0 0, .string (⟨#[]⟩ : ByteArray), .string (⟨#[]⟩ : ByteArray), .float .f64 (0 : Nat)] 25 (0, 0)) (by (with_reducible repeat (first | refine blk_drewN ?_ _ | refine blk_drew ?_ | refine blk_alloc ?_ _)); exact BK540.out) hb)
    have n1_ := Aside0.mk (below_step (by repeat (first | (with_reducible first | exact HB.out | apply below_alloc | apply pw_below_drewN | apply below_drew1 | refine below_set ?_ GE540.out) | exact HB.out)) hb)
    have n2_ := Aside0.mk (hbox)
    have n3_ := Aside0.mk ((by rw [hg]; exact (below_size (by repeat (first | (with_reducible first | exact HB.out | apply below_alloc | apply pw_below_drewN | apply below_drew1 | refine below_set ?_ GE540.out) | exact HB.out))) : w.heap.size ≤ gb539))
    have n4_ := Aside0.mk ((by rw [hg]; exact (below_size (by repeat (first | (with_reducible first | exact HB.out | apply below_alloc | apply pw_below_drewN | apply below_drew1 | refine below_set ?_ GE540.out) | exact HB.out))) : w.heap.size ≤ gb539))
    have n5_ := Aside0.mk ((by rw [hg]; exact Nat.ne_of_lt (blk_lt (g := gb540) (o := .cells #[.int .i64 0, .int .i64 0, .int .i64 0, .int .i64 0, .slice none 0 0, .string (⟨#[]⟩ : ByteArray), .string (⟨#[]⟩ : ByteArray), .float .f64 (0 : Nat)] 25 (0, 0)) (by (with_reducible repeat (first | refine blk_drewN ?_ _ | refine blk_drew ?_ | refine blk_alloc ?_ _)); exact BK540.out)) : gb540 ≠ gb539))
    have n6_ := Aside0.mk ((by rw [hg]; exact Nat.ne_of_gt (blk_lt (g := gb540) (o := .cells #[.int .i64 0, .int .i64 0, .int .i64 0, .int .i64 0, .slice none 0 0, .string (⟨#[]⟩ : ByteArray), .string (⟨#[]⟩ : ByteArray), .float .f64 (0 : Nat)] 25 (0, 0)) (by (with_reducible repeat (first | refine blk_drewN ?_ _ | refine blk_drew ?_ | refine blk_alloc ?_ _)); exact BK540.out)) : gb539 ≠ gb540))
    clear BK540
    clear HB
    have BK540 := n0_
    have HB := n1_
    have BK539 := n2_
    have GW539 := n3_
    have GE539 := n4_
    have NB540_539 := n5_
    have NB539_540 := n6_
    clear n0_ n1_ n2_ n3_ n4_ n5_ n6_
    clear hb hbox hg
    refine hK.out _ _ ⟨((HB.out.cell (World.block_lt_of_cell? w _ hw537_0)).trans hw537_0), ((HB.out.cell (World.block_lt_of_cell? w _ hw537_1)).trans hw537_1), ((HB.out.cell (World.block_lt_of_cell? w _ hw537_2)).trans hw537_2), ((HB.out.cell (World.block_lt_of_cell? w _ hw537_3)).trans hw537_3), ((HB.out.cell (World.block_lt_of_cell? w _ hw537_4)).trans hw537_4), ((HB.out.cell (World.block_lt_of_cell? w _ hw537_5)).trans hw537_5), ((HB.out.cell (World.block_lt_of_cell? w _ hw537_6)).trans hw537_6), ((HB.out.cell (World.block_lt_of_cell? w _ hw537_7)).trans hw537_7), ((HB.out.cell (World.block_lt_of_cell? w _ hw538_0)).trans hw538_0), ((HB.out.cell (World.block_lt_of_cell? w _ hw538_1)).trans hw538_1), ((HB.out.cell (World.block_lt_of_cell? w _ hw538_2)).trans hw538_2), ((HB.out.cell (World.block_lt_of_cell? w _ hw538_3)).trans hw538_3), ((HB.out.cell (World.block_lt_of_cell? w _ hw538_4)).trans hw538_4), ((HB.out.cell (World.block_lt_of_cell? w _ hw538_5)).trans hw538_5), ((HB.out.cell (World.block_lt_of_cell? w _ hw538_6)).trans hw538_6), ((HB.out.cell (World.block_lt_of_cell? w _ hw538_7)).trans hw538_7)⟩ (fun hHeld => ?_)
    clear hK K
    refine sqN 6 ?_
    exact norm_ (by simp only [putAll, Act.put, List.setIfInBounds_toArray, List.set_cons_zero, List.set_cons_succ]) (hCont (gb539, gb540) _ ⟨hHeld, (by (with_reducible repeat (first | refine blk_drewN ?_ _ | refine blk_drew ?_ | refine blk_alloc ?_ _)); exact BK539.out), (by (with_reducible repeat (first | refine blk_drewN ?_ _ | refine blk_drew ?_ | refine blk_alloc ?_ _)); exact BK540.out), GW539.out, GE539.out, NB540_539.out, NB539_540.out, GW540.out, GE540.out, (by repeat (first | (with_reducible first | exact HB.out | apply below_alloc | apply pw_below_drewN | apply below_drew1 | refine below_set ?_ GE540.out | refine below_set ?_ GE539.out) | exact HB.out))⟩)
   rintro ⟨gb539, gb540⟩ w12 ⟨hS_, h0_, h1_, h2_, h3_, h4_, h5_, h6_, h7_, h8_⟩
   have n0_ : Aside0 (w12.heap[gb539]? = some (.cells #[.int .i64 0, .int .i64 0, .int .i64 0, .int .i64 0, .slice none 0 0, .string (⟨#[]⟩ : ByteArray), .string (⟨#[]⟩ : ByteArray), .float .f64 (0 : Nat)] 25 (0, 0))) := ⟨h0_⟩
   have n1_ : Aside0 (w12.heap[gb540]? = some (.cells #[.int .i64 0, .int .i64 0, .int .i64 0, .int .i64 0, .slice none 0 0, .string (⟨#[]⟩ : ByteArray), .string (⟨#[]⟩ : ByteArray), .float .f64 (0 : Nat)] 25 (0, 0))) := ⟨h1_⟩
   have n2_ : Aside0 (w.heap.size ≤ gb539) := ⟨h2_⟩
   have n3_ : Aside0 (w.heap.size ≤ gb539) := ⟨h3_⟩
   have n4_ : Aside0 (gb540 ≠ gb539) := ⟨h4_⟩
   have n5_ : Aside0 (gb539 ≠ gb540) := ⟨h5_⟩
   have n6_ : Aside0 (w.heap.size ≤ gb540) := ⟨h6_⟩
   have n7_ : Aside0 (w.heap.size ≤ gb540) := ⟨h7_⟩
   have n8_ : Aside0 (Below w.heap.size w w12) := ⟨h8_⟩
   clear HB
   clear h0_ h1_ h2_ h3_ h4_ h5_ h6_ h7_ h8_
   have BK539 := n0_
   have BK540 := n1_
   have GW539 := n2_
   have GE539 := n3_
   have NB540_539 := n4_
   have NB539_540 := n5_
   have GW540 := n6_
   have GE540 := n7_
   have HB := n8_
   clear n0_ n1_ n2_ n3_ n4_ n5_ n6_ n7_ n8_
   have hHeld : w12.cell? (ad537.add ((x16_1).toNat * 8)) = some (.int .i64 ((rd_T25 l0 x16_1).f0)) ∧ w12.cell? ⟨(ad537.add ((x16_1).toNat * 8)).block, (ad537.add ((x16_1).toNat * 8)).off + 1, none⟩ = some (.int .i64 ((rd_T25 l0 x16_1).f1)) ∧ w12.cell? ⟨(ad537.add ((x16_1).toNat * 8)).block, (ad537.add ((x16_1).toNat * 8)).off + 2, none⟩ = some (.int .i64 ((rd_T25 l0 x16_1).f2)) ∧ w12.cell? ⟨(ad537.add ((x16_1).toNat * 8)).block, (ad537.add ((x16_1).toNat * 8)).off + 3, none⟩ = some (.int .i64 ((rd_T25 l0 x16_1).f3)) ∧ w12.cell? ⟨(ad537.add ((x16_1).toNat * 8)).block, (ad537.add ((x16_1).toNat * 8)).off + 4, none⟩ = some (.slice A537_4 ((rd_T25 l0 x16_1).f4).length c537_4) ∧ w12.cell? ⟨(ad537.add ((x16_1).toNat * 8)).block, (ad537.add ((x16_1).toNat * 8)).off + 5, none⟩ = some (.string ((rd_T25 l0 x16_1).f5)) ∧ w12.cell? ⟨(ad537.add ((x16_1).toNat * 8)).block, (ad537.add ((x16_1).toNat * 8)).off + 6, none⟩ = some (.string ((rd_T25 l0 x16_1).f6)) ∧ w12.cell? ⟨(ad537.add ((x16_1).toNat * 8)).block, (ad537.add ((x16_1).toNat * 8)).off + 7, none⟩ = some (.float .f64 ((rd_T25 l0 x16_1).f7)) ∧ w12.cell? (ad538.add ((x16_1).toNat * 8)) = some (.int .i64 ((rd_T25 l1 x16_1).f0)) ∧ w12.cell? ⟨(ad538.add ((x16_1).toNat * 8)).block, (ad538.add ((x16_1).toNat * 8)).off + 1, none⟩ = some (.int .i64 ((rd_T25 l1 x16_1).f1)) ∧ w12.cell? ⟨(ad538.add ((x16_1).toNat * 8)).block, (ad538.add ((x16_1).toNat * 8)).off + 2, none⟩ = some (.int .i64 ((rd_T25 l1 x16_1).f2)) ∧ w12.cell? ⟨(ad538.add ((x16_1).toNat * 8)).block, (ad538.add ((x16_1).toNat * 8)).off + 3, none⟩ = some (.int .i64 ((rd_T25 l1 x16_1).f3)) ∧ w12.cell? ⟨(ad538.add ((x16_1).toNat * 8)).block, (ad538.add ((x16_1).toNat * 8)).off + 4, none⟩ = some (.slice A538_4 ((rd_T25 l1 x16_1).f4).length c538_4) ∧ w12.cell? ⟨(ad538.add ((x16_1).toNat * 8)).block, (ad538.add ((x16_1).toNat * 8)).off + 5, none⟩ = some (.string ((rd_T25 l1 x16_1).f5)) ∧ w12.cell? ⟨(ad538.add ((x16_1).toNat * 8)).block, (ad538.add ((x16_1).toNat * 8)).off + 6, none⟩ = some (.string ((rd_T25 l1 x16_1).f6)) ∧ w12.cell? ⟨(ad538.add ((x16_1).toNat * 8)).block, (ad538.add ((x16_1).toNat * 8)).off + 7, none⟩ = some (.float .f64 ((rd_T25 l1 x16_1).f7)) := hS_
   refine norm_ (a' := ?_) ?_ ?_
   rotate_left
   ·simp only [putAll, Act.put, List.setIfInBounds_toArray, List.set_cons_zero, List.set_cons_succ]
    rfl
   refine recStore 10 (bm 12 2047) 25 (.tmp 6) (.tmp 22) gb539 25 [.int .i64 0, .int .i64 0, .int .i64 0, .int .i64 0, .slice none 0 0, .string (⟨#[]⟩ : ByteArray), .string (⟨#[]⟩ : ByteArray), .float .f64 (0 : Nat)] [.int .i64 ((rd_T25 l0 x16_1).f0), .int .i64 ((rd_T25 l0 x16_1).f1), .int .i64 ((rd_T25 l0 x16_1).f2), .int .i64 ((rd_T25 l0 x16_1).f3), .slice A537_4 ((rd_T25 l0 x16_1).f4).length c537_4, .string ((rd_T25 l0 x16_1).f5), .string ((rd_T25 l0 x16_1).f6), .float .f64 ((rd_T25 l0 x16_1).f7)] BK539.out rfl (by kernel_rfl) (by intro q hq; simp only [List.mem_cons, List.not_mem_nil, or_false] at hq; rcases hq with rfl | rfl | rfl | rfl | rfl | rfl | rfl | rfl <;> rfl) (fun W hW => ⟨cell_of hW (sqG hw537_0 GW539.out) hHeld.1, cell_of hW (sqG hw537_1 GW539.out) hHeld.2.1, cell_of hW (sqG hw537_2 GW539.out) hHeld.2.2.1, cell_of hW (sqG hw537_3 GW539.out) hHeld.2.2.2.1, cell_of hW (sqG hw537_4 GW539.out) hHeld.2.2.2.2.1, cell_of hW (sqG hw537_5 GW539.out) hHeld.2.2.2.2.2.1, cell_of hW (sqG hw537_6 GW539.out) hHeld.2.2.2.2.2.2.1, cell_of hW (sqG hw537_7 GW539.out) hHeld.2.2.2.2.2.2.2.1, cell_of hW (sqG hw538_0 GW539.out) hHeld.2.2.2.2.2.2.2.2.1, cell_of hW (sqG hw538_1 GW539.out) hHeld.2.2.2.2.2.2.2.2.2.1, cell_of hW (sqG hw538_2 GW539.out) hHeld.2.2.2.2.2.2.2.2.2.2.1, cell_of hW (sqG hw538_3 GW539.out) hHeld.2.2.2.2.2.2.2.2.2.2.2.1, cell_of hW (sqG hw538_4 GW539.out) hHeld.2.2.2.2.2.2.2.2.2.2.2.2.1, cell_of hW (sqG hw538_5 GW539.out) hHeld.2.2.2.2.2.2.2.2.2.2.2.2.2.1, cell_of hW (sqG hw538_6 GW539.out) hHeld.2.2.2.2.2.2.2.2.2.2.2.2.2.2.1, cell_of hW (sqG hw538_7 GW539.out) hHeld.2.2.2.2.2.2.2.2.2.2.2.2.2.2.2⟩) (fun W0 h1_ h2_ h3_ hHeld_ => ?_)
   have n0_ := Aside0.mk h1_
   have n1_ := Aside0.mk ((h2_ gb540 NB540_539.out).trans BK540.out)
   have n2_ := Aside0.mk (h3_ _ _ GE539.out HB.out)
   clear BK539 BK540 HB hHeld h1_ h2_ h3_
   have BK539 := n0_
   have BK540 := n1_
   have HB := n2_
   have hHeld := hHeld_
   clear n0_ n1_ n2_ hHeld_
   refine recStore 11 (bm 12 4095) 25 (.tmp 7) (.tmp 26) gb540 25 [.int .i64 0, .int .i64 0, .int .i64 0, .int .i64 0, .slice none 0 0, .string (⟨#[]⟩ : ByteArray), .string (⟨#[]⟩ : ByteArray), .float .f64 (0 : Nat)] [.int .i64 ((rd_T25 l1 x16_1).f0), .int .i64 ((rd_T25 l1 x16_1).f1), .int .i64 ((rd_T25 l1 x16_1).f2), .int .i64 ((rd_T25 l1 x16_1).f3), .slice A538_4 ((rd_T25 l1 x16_1).f4).length c538_4, .string ((rd_T25 l1 x16_1).f5), .string ((rd_T25 l1 x16_1).f6), .float .f64 ((rd_T25 l1 x16_1).f7)] BK540.out rfl (by kernel_rfl) (by intro q hq; simp only [List.mem_cons, List.not_mem_nil, or_false] at hq; rcases hq with rfl | rfl | rfl | rfl | rfl | rfl | rfl | rfl <;> rfl) (fun W hW => ⟨cell_of hW (sqG hw537_0 GW540.out) hHeld.1, cell_of hW (sqG hw537_1 GW540.out) hHeld.2.1, cell_of hW (sqG hw537_2 GW540.out) hHeld.2.2.1, cell_of hW (sqG hw537_3 GW540.out) hHeld.2.2.2.1, cell_of hW (sqG hw537_4 GW540.out) hHeld.2.2.2.2.1, cell_of hW (sqG hw537_5 GW540.out) hHeld.2.2.2.2.2.1, cell_of hW (sqG hw537_6 GW540.out) hHeld.2.2.2.2.2.2.1, cell_of hW (sqG hw537_7 GW540.out) hHeld.2.2.2.2.2.2.2.1, cell_of hW (sqG hw538_0 GW540.out) hHeld.2.2.2.2.2.2.2.2.1, cell_of hW (sqG hw538_1 GW540.out) hHeld.2.2.2.2.2.2.2.2.2.1, cell_of hW (sqG hw538_2 GW540.out) hHeld.2.2.2.2.2.2.2.2.2.2.1, cell_of hW (sqG hw538_3 GW540.out) hHeld.2.2.2.2.2.2.2.2.2.2.2.1, cell_of hW (sqG hw538_4 GW540.out) hHeld.2.2.2.2.2.2.2.2.2.2.2.2.1, cell_of hW (sqG hw538_5 GW540.out) hHeld.2.2.2.2.2.2.2.2.2.2.2.2.2.1, cell_of hW (sqG hw538_6 GW540.out) hHeld.2.2.2.2.2.2.2.2.2.2.2.2.2.2.1, cell_of hW (sqG hw538_7 GW540.out) hHeld.2.2.2.2.2.2.2.2.2.2.2.2.2.2.2⟩) (fun w38 h1_ h2_ h3_ hHeld_ => ?_)
   have n0_ := Aside0.mk h1_
   have n1_ := Aside0.mk ((h2_ gb539 NB539_540.out).trans BK539.out)
   have n2_ := Aside0.mk (h3_ _ _ GE540.out HB.out)
   clear BK540 BK539 HB hHeld h1_ h2_ h3_
   have BK540 := n0_
   have BK539 := n1_
   have HB := n2_
   have hHeld := hHeld_
   clear n0_ n1_ n2_ hHeld_
   refine done_ (done_of HT_.out (by kernel_rfl)) ?_
   go_upto_region 7 with (fail)
   go_cut [84] (fun v84 wc => ∃ (kq : Nat) (x84_7 : Bool), v84 = .bool x84_7 ∧ Aside0 (table_Same.j1 kq l0 l1 (l0.length : Int) x16_1 x84_7 ((rd_T25 l0 x16_1).f0) ((rd_T25 l0 x16_1).f1) ((rd_T25 l0 x16_1).f2) ((rd_T25 l0 x16_1).f3) ((rd_T25 l0 x16_1).f4) ((rd_T25 l0 x16_1).f5) ((rd_T25 l0 x16_1).f6) ((rd_T25 l0 x16_1).f7) ((rd_T25 l1 x16_1).f0) ((rd_T25 l1 x16_1).f1) ((rd_T25 l1 x16_1).f2) ((rd_T25 l1 x16_1).f3) ((rd_T25 l1 x16_1).f4) ((rd_T25 l1 x16_1).f5) ((rd_T25 l1 x16_1).f6) ((rd_T25 l1 x16_1).f7) = some r) ∧ Aside0 (kq ≤ k1) ∧ Aside0 (wc.heap[gb539]? = some (.cells #[.int .i64 ((rd_T25 l0 x16_1).f0), .int .i64 ((rd_T25 l0 x16_1).f1), .int .i64 ((rd_T25 l0 x16_1).f2), .int .i64 ((rd_T25 l0 x16_1).f3), (.slice A537_4 ((rd_T25 l0 x16_1).f4).length c537_4), .string ((rd_T25 l0 x16_1).f5), .string ((rd_T25 l0 x16_1).f6), .float .f64 ((rd_T25 l0 x16_1).f7)] 25 (0, 0))) ∧ Aside0 (wc.heap[gb540]? = some (.cells #[.int .i64 ((rd_T25 l1 x16_1).f0), .int .i64 ((rd_T25 l1 x16_1).f1), .int .i64 ((rd_T25 l1 x16_1).f2), .int .i64 ((rd_T25 l1 x16_1).f3), (.slice A538_4 ((rd_T25 l1 x16_1).f4).length c538_4), .string ((rd_T25 l1 x16_1).f5), .string ((rd_T25 l1 x16_1).f6), .float .f64 ((rd_T25 l1 x16_1).f7)] 25 (0, 0))) ∧ Aside0 (Below w.heap.size w wc))
   case first =>
    try go_wp2
    have n0_ := Aside0.mk (blk_drew BK539.out)
    have n1_ := Aside0.mk (blk_drew BK540.out)
    have n2_ := Aside0.mk (below_drew1 HB.out)
    clear BK539
    clear BK540
    clear HB
    have BK539 := n0_
    have BK540 := n1_
    have HB := n2_
    clear n0_ n1_ n2_
    refine start_ (n := 58) (S := fun w' => w'.cell? ⟨gb539, 0, none⟩ = some (.int .i64 ((rd_T25 l0 x16_1).f0)) ∧ w'.cell? ⟨gb539, 1, none⟩ = some (.int .i64 ((rd_T25 l0 x16_1).f1)) ∧ w'.cell? ⟨gb539, 2, none⟩ = some (.int .i64 ((rd_T25 l0 x16_1).f2)) ∧ w'.cell? ⟨gb539, 3, none⟩ = some (.int .i64 ((rd_T25 l0 x16_1).f3)) ∧ w'.cell? ⟨gb539, 4, none⟩ = some (.slice A537_4 ((rd_T25 l0 x16_1).f4).length c537_4) ∧ w'.cell? ⟨gb539, 5, none⟩ = some (.string ((rd_T25 l0 x16_1).f5)) ∧ w'.cell? ⟨gb539, 6, none⟩ = some (.string ((rd_T25 l0 x16_1).f6)) ∧ w'.cell? ⟨gb539, 7, none⟩ = some (.float .f64 ((rd_T25 l0 x16_1).f7)) ∧ w'.cell? ⟨gb540, 0, none⟩ = some (.int .i64 ((rd_T25 l1 x16_1).f0)) ∧ w'.cell? ⟨gb540, 1, none⟩ = some (.int .i64 ((rd_T25 l1 x16_1).f1)) ∧ w'.cell? ⟨gb540, 2, none⟩ = some (.int .i64 ((rd_T25 l1 x16_1).f2)) ∧ w'.cell? ⟨gb540, 3, none⟩ = some (.int .i64 ((rd_T25 l1 x16_1).f3)) ∧ w'.cell? ⟨gb540, 4, none⟩ = some (.slice A538_4 ((rd_T25 l1 x16_1).f4).length c538_4) ∧ w'.cell? ⟨gb540, 5, none⟩ = some (.string ((rd_T25 l1 x16_1).f5)) ∧ w'.cell? ⟨gb540, 6, none⟩ = some (.string ((rd_T25 l1 x16_1).f6)) ∧ w'.cell? ⟨gb540, 7, none⟩ = some (.float .f64 ((rd_T25 l1 x16_1).f7))) (ds := []) (bm 58 0) (by kernel_rfl) rfl rfl ⟨(blk_cell BK539.out 0).trans rfl, (blk_cell BK539.out 1).trans rfl, (blk_cell BK539.out 2).trans rfl, (blk_cell BK539.out 3).trans rfl, (blk_cell BK539.out 4).trans rfl, (blk_cell BK539.out 5).trans rfl, (blk_cell BK539.out 6).trans rfl, (blk_cell BK539.out 7).trans rfl, (blk_cell BK540.out 0).trans rfl, (blk_cell BK540.out 1).trans rfl, (blk_cell BK540.out 2).trans rfl, (blk_cell BK540.out 3).trans rfl, (blk_cell BK540.out 4).trans rfl, (blk_cell BK540.out 5).trans rfl, (blk_cell BK540.out 6).trans rfl, (blk_cell BK540.out 7).trans rfl⟩ (fun hHeld => ?_); refine with_tabW table_Same.tab7 table_Same.bits7 (fun HT_ HW_ => ?_)
    generalize w38.drew = w39 at BK539 BK540 HB hHeld ⊢
    have H := HC8.out
    clear HC8
    by_cases c29 : ((rd_T25 l0 x16_1).f0) = ((rd_T25 l1 x16_1).f0)
    ·rw [if_pos c29] at H
     have c29b0 := beq_iff_eq.mpr c29
     have c29b1 := bne_eq_false_iff_eq.mpr c29
     clear c29
     (first | rw [c29b0] | (simp only [i64_w, i32_w]; rw [c29b0]) | skip)
     by_cases c30 : ((rd_T25 l0 x16_1).f1) = ((rd_T25 l1 x16_1).f1)
     ·rw [if_pos c30] at H
      have c30b0 := beq_iff_eq.mpr c30
      have c30b1 := bne_eq_false_iff_eq.mpr c30
      clear c30
      by_cases c31 : ((rd_T25 l0 x16_1).f2) = ((rd_T25 l1 x16_1).f2)
      ·rw [if_pos c31] at H
       have c31b0 := beq_iff_eq.mpr c31
       have c31b1 := bne_eq_false_iff_eq.mpr c31
       clear c31
       by_cases c32 : ((rd_T25 l0 x16_1).f3) = ((rd_T25 l1 x16_1).f3)
       ·rw [if_pos c32] at H
        have c32b0 := beq_iff_eq.mpr c32
        have c32b1 := bne_eq_false_iff_eq.mpr c32
        clear c32
        by_cases c33 : ((rd_T25 l0 x16_1).f5).toList = ((rd_T25 l1 x16_1).f5).toList
        ·rw [if_pos c33] at H
         have c33b0 := beq_iff_eq.mpr c33
         have c33b1 := bne_eq_false_iff_eq.mpr c33
         clear c33
         by_cases c34 : ((rd_T25 l0 x16_1).f6).toList = ((rd_T25 l1 x16_1).f6).toList
         ·rw [if_pos c34] at H
          have c34b0 := beq_iff_eq.mpr c34
          have c34b1 := bne_eq_false_iff_eq.mpr c34
          clear c34
          obtain ⟨t541, A35, H⟩ := sqO H
          try dsimp only at H
          obtain ⟨t542, A36, H⟩ := sqO H
          try dsimp only at H
          by_cases c37 : t541 = t542
          ·rw [if_pos c37] at H
           have c37b0 := beq_iff_eq.mpr c37
           have c37b1 := bne_eq_false_iff_eq.mpr c37
           clear c37
           have H' := Aside0.mk H
           clear H
           refine sqP 0 (some 27) (bm 58 1) ?_
           refine sqP 2 (some 29) (bm 58 5) ?_
           refine sqT 1 (some 28) (bm 58 7) ?_
           refine sqT 3 (some 30) (bm 58 15) ?_
           refine sqP 4 (some 31) (bm 58 31) ?_
           refine sqP 5 (some 32) (bm 58 63) ?_
           refine sqP 6 (some 33) (bm 58 127) ?_
           refine sqP 8 (some 35) (bm 58 383) ?_
           refine sqT 7 (some 34) (bm 58 511) ?_
           refine sqT 9 (some 36) (bm 58 1023) ?_
           refine sqP 10 (some 37) (bm 58 2047) ?_
           refine sqP 11 (some 38) (bm 58 4095) ?_
           refine sqP 12 (some 39) (bm 58 8191) ?_
           refine sqP 13 (some 40) (bm 58 16383) ?_
           refine sqP 15 (some 42) (bm 58 49151) ?_
           refine sqT 14 (some 41) (bm 58 65535) ?_
           refine sqT 16 (some 43) (bm 58 131071) ?_
           refine sqP 17 (some 44) (bm 58 262143) ?_
           refine sqP 18 (some 45) (bm 58 524287) ?_
           refine sqP 19 (some 46) (bm 58 1048575) ?_
           refine sqP 20 (some 47) (bm 58 2097151) ?_
           refine sqP 22 (some 49) (bm 58 6291455) ?_
           refine sqT 21 (some 48) (bm 58 8388607) ?_
           refine sqT 23 (some 50) (bm 58 16777215) ?_
           refine sqP 24 (some 51) (bm 58 33554431) ?_
           refine sqP 25 (some 52) (bm 58 67108863) ?_
           refine sqP 26 (some 53) (bm 58 134217727) ?_
           refine sqP 27 (some 54) (bm 58 268435455) ?_
           refine sqP 29 (some 56) (bm 58 805306367) ?_
           refine sqT 28 (some 55) (bm 58 1073741823) ?_
           refine sqT 30 (some 57) (bm 58 2147483647) ?_
           refine sqP 31 (some 58) (bm 58 4294967295) ?_
           refine sqP 32 (some 59) (bm 58 8589934591) ?_
           refine sqP 33 (some 60) (bm 58 17179869183) ?_
           refine sqP 34 (some 61) (bm 58 34359738367) ?_
           refine sqP 36 (some 63) (bm 58 103079215103) ?_
           refine sqT 35 (some 62) (bm 58 137438953471) ?_
           refine sqT 37 (some 64) (bm 58 274877906943) ?_
           refine sqP 38 (some 65) (bm 58 549755813887) ?_
           refine sqP 39 (some 66) (bm 58 1099511627775) ?_
           refine sqP 40 (some 67) (bm 58 2199023255551) ?_
           refine sqP 41 (some 68) (bm 58 4398046511103) ?_
           refine sqP 44 (some 71) (bm 58 21990232555519) ?_
           refine sqT 42 (some 69) (bm 58 26388279066623) ?_
           refine sqT 45 (some 72) (bm 58 61572651155455) ?_
           refine sqI 43 (some 70) (bm 58 70368744177663) (fun K hK => ?_)
           refine goes_ Tryz.func52 (by kernel_rfl) rfl #[.float .f64 ((rd_T25 l0 x16_1).f7)] (by rfl) rfl rfl sqA ?_
           with_reducible refine (api_Bits.calls ((rd_T25 l0 x16_1).f7) t541 _ A35.out).mono ?_
           rintro e w' ⟨rfl, ⟨nd, rfl⟩⟩
           refine ⟨_, rfl, ?_⟩
           refine hK.out _ _ ⟨(blk_cell BK539.out 0).trans rfl, (blk_cell BK539.out 1).trans rfl, (blk_cell BK539.out 2).trans rfl, (blk_cell BK539.out 3).trans rfl, (blk_cell BK539.out 4).trans rfl, (blk_cell BK539.out 5).trans rfl, (blk_cell BK539.out 6).trans rfl, (blk_cell BK539.out 7).trans rfl, (blk_cell BK540.out 0).trans rfl, (blk_cell BK540.out 1).trans rfl, (blk_cell BK540.out 2).trans rfl, (blk_cell BK540.out 3).trans rfl, (blk_cell BK540.out 4).trans rfl, (blk_cell BK540.out 5).trans rfl, (blk_cell BK540.out 6).trans rfl, (blk_cell BK540.out 7).trans rfl⟩ (fun hHeld => ?_)
           clear hK K
           refine sqN 70 ?_
           refine sqI 46 (some 73) (bm 58 140737488355327) (fun K hK => ?_)
           refine goes_ Tryz.func52 (by kernel_rfl) rfl #[.float .f64 ((rd_T25 l1 x16_1).f7)] (by rfl) rfl rfl sqA ?_
           with_reducible refine (api_Bits.calls ((rd_T25 l1 x16_1).f7) t542 _ A36.out).mono ?_
           rintro e w' ⟨rfl, ⟨nd, rfl⟩⟩
           refine ⟨_, rfl, ?_⟩
           refine hK.out _ _ ⟨(blk_cell BK539.out 0).trans rfl, (blk_cell BK539.out 1).trans rfl, (blk_cell BK539.out 2).trans rfl, (blk_cell BK539.out 3).trans rfl, (blk_cell BK539.out 4).trans rfl, (blk_cell BK539.out 5).trans rfl, (blk_cell BK539.out 6).trans rfl, (blk_cell BK539.out 7).trans rfl, (blk_cell BK540.out 0).trans rfl, (blk_cell BK540.out 1).trans rfl, (blk_cell BK540.out 2).trans rfl, (blk_cell BK540.out 3).trans rfl, (blk_cell BK540.out 4).trans rfl, (blk_cell BK540.out 5).trans rfl, (blk_cell BK540.out 6).trans rfl, (blk_cell BK540.out 7).trans rfl⟩ (fun hHeld => ?_)
           clear hK K
           refine sqN 73 ?_
           refine sqP 47 (some 74) (bm 58 281474976710655) ?_
           refine sqP 48 (some 75) (bm 58 562949953421311) ?_
           refine sqP 49 (some 76) (bm 58 1125899906842623) ?_
           refine sqP 50 (some 77) (bm 58 2251799813685247) ?_
           refine sqP 53 (some 80) (bm 58 11258999068426239) ?_
           refine sqT 51 (some 78) (bm 58 13510798882111487) ?_
           refine sqP 52 (some 79) (bm 58 18014398509481983) ?_
           refine sqT 54 (some 81) (bm 58 36028797018963967) ?_
           refine sqP 55 (some 82) (bm 58 72057594037927935) ?_
           refine sqP 56 (some 83) (bm 58 144115188075855871) ?_
           refine sqP 57 (some 84) (bm 58 288230376151711743) ?_
           refine done_ (done_of HT_.out (by kernel_rfl)) ?_
           try go_wp2
           go_meet
           case rel => exact ⟨_, (((((rd_T25 l0 x16_1).f4).length : Int) != (((rd_T25 l1 x16_1).f4).length : Int))), sqE, H', ⟨by have := HK1.out; first | omega | exact Nat.le_refl _⟩, ⟨by (with_reducible repeat (first | refine blk_drewN ?_ _ | refine blk_drew ?_ | refine blk_alloc ?_ _)); exact BK539.out⟩, ⟨by (with_reducible repeat (first | refine blk_drewN ?_ _ | refine blk_drew ?_ | refine blk_alloc ?_ _)); exact BK540.out⟩, ⟨by repeat (first | (with_reducible first | exact HB.out | apply below_alloc | apply pw_below_drewN | apply below_drew1 | refine below_set ?_ GE539.out | refine below_set ?_ GE540.out) | exact HB.out)⟩⟩
          rw [if_neg c37] at H
          have c37b0 := beq_eq_false_iff_ne.mpr c37
          have c37b1 := bne_iff_ne.mpr c37
          have H' := Aside0.mk H
          clear H
          refine sqP 0 (some 27) (bm 58 1) ?_
          refine sqP 2 (some 29) (bm 58 5) ?_
          refine sqT 1 (some 28) (bm 58 7) ?_
          refine sqT 3 (some 30) (bm 58 15) ?_
          refine sqP 4 (some 31) (bm 58 31) ?_
          refine sqP 5 (some 32) (bm 58 63) ?_
          refine sqP 6 (some 33) (bm 58 127) ?_
          refine sqP 8 (some 35) (bm 58 383) ?_
          refine sqT 7 (some 34) (bm 58 511) ?_
          refine sqT 9 (some 36) (bm 58 1023) ?_
          refine sqP 10 (some 37) (bm 58 2047) ?_
          refine sqP 11 (some 38) (bm 58 4095) ?_
          refine sqP 12 (some 39) (bm 58 8191) ?_
          refine sqP 13 (some 40) (bm 58 16383) ?_
          refine sqP 15 (some 42) (bm 58 49151) ?_
          refine sqT 14 (some 41) (bm 58 65535) ?_
          refine sqT 16 (some 43) (bm 58 131071) ?_
          refine sqP 17 (some 44) (bm 58 262143) ?_
          refine sqP 18 (some 45) (bm 58 524287) ?_
          refine sqP 19 (some 46) (bm 58 1048575) ?_
          refine sqP 20 (some 47) (bm 58 2097151) ?_
          refine sqP 22 (some 49) (bm 58 6291455) ?_
          refine sqT 21 (some 48) (bm 58 8388607) ?_
          refine sqT 23 (some 50) (bm 58 16777215) ?_
          refine sqP 24 (some 51) (bm 58 33554431) ?_
          refine sqP 25 (some 52) (bm 58 67108863) ?_
          refine sqP 26 (some 53) (bm 58 134217727) ?_
          refine sqP 27 (some 54) (bm 58 268435455) ?_
          refine sqP 29 (some 56) (bm 58 805306367) ?_
          refine sqT 28 (some 55) (bm 58 1073741823) ?_
          refine sqT 30 (some 57) (bm 58 2147483647) ?_
          refine sqP 31 (some 58) (bm 58 4294967295) ?_
          refine sqP 32 (some 59) (bm 58 8589934591) ?_
          refine sqP 33 (some 60) (bm 58 17179869183) ?_
          refine sqP 34 (some 61) (bm 58 34359738367) ?_
          refine sqP 36 (some 63) (bm 58 103079215103) ?_
          refine sqT 35 (some 62) (bm 58 137438953471) ?_
          refine sqT 37 (some 64) (bm 58 274877906943) ?_
          refine sqP 38 (some 65) (bm 58 549755813887) ?_
          refine sqP 39 (some 66) (bm 58 1099511627775) ?_
          refine sqP 40 (some 67) (bm 58 2199023255551) ?_
          refine sqP 41 (some 68) (bm 58 4398046511103) ?_
          refine sqP 44 (some 71) (bm 58 21990232555519) ?_
          refine sqT 42 (some 69) (bm 58 26388279066623) ?_
          refine sqT 45 (some 72) (bm 58 61572651155455) ?_
          refine sqI 43 (some 70) (bm 58 70368744177663) (fun K hK => ?_)
          refine goes_ Tryz.func52 (by kernel_rfl) rfl #[.float .f64 ((rd_T25 l0 x16_1).f7)] (by rfl) rfl rfl sqA ?_
          with_reducible refine (api_Bits.calls ((rd_T25 l0 x16_1).f7) t541 _ A35.out).mono ?_
          rintro e w' ⟨rfl, ⟨nd, rfl⟩⟩
          refine ⟨_, rfl, ?_⟩
          refine hK.out _ _ ⟨(blk_cell BK539.out 0).trans rfl, (blk_cell BK539.out 1).trans rfl, (blk_cell BK539.out 2).trans rfl, (blk_cell BK539.out 3).trans rfl, (blk_cell BK539.out 4).trans rfl, (blk_cell BK539.out 5).trans rfl, (blk_cell BK539.out 6).trans rfl, (blk_cell BK539.out 7).trans rfl, (blk_cell BK540.out 0).trans rfl, (blk_cell BK540.out 1).trans rfl, (blk_cell BK540.out 2).trans rfl, (blk_cell BK540.out 3).trans rfl, (blk_cell BK540.out 4).trans rfl, (blk_cell BK540.out 5).trans rfl, (blk_cell BK540.out 6).trans rfl, (blk_cell BK540.out 7).trans rfl⟩ (fun hHeld => ?_)
          clear hK K
          refine sqN 70 ?_
          refine sqI 46 (some 73) (bm 58 140737488355327) (fun K hK => ?_)
          refine goes_ Tryz.func52 (by kernel_rfl) rfl #[.float .f64 ((rd_T25 l1 x16_1).f7)] (by rfl) rfl rfl sqA ?_
          with_reducible refine (api_Bits.calls ((rd_T25 l1 x16_1).f7) t542 _ A36.out).mono ?_
          rintro e w' ⟨rfl, ⟨nd, rfl⟩⟩
          refine ⟨_, rfl, ?_⟩
          refine hK.out _ _ ⟨(blk_cell BK539.out 0).trans rfl, (blk_cell BK539.out 1).trans rfl, (blk_cell BK539.out 2).trans rfl, (blk_cell BK539.out 3).trans rfl, (blk_cell BK539.out 4).trans rfl, (blk_cell BK539.out 5).trans rfl, (blk_cell BK539.out 6).trans rfl, (blk_cell BK539.out 7).trans rfl, (blk_cell BK540.out 0).trans rfl, (blk_cell BK540.out 1).trans rfl, (blk_cell BK540.out 2).trans rfl, (blk_cell BK540.out 3).trans rfl, (blk_cell BK540.out 4).trans rfl, (blk_cell BK540.out 5).trans rfl, (blk_cell BK540.out 6).trans rfl, (blk_cell BK540.out 7).trans rfl⟩ (fun hHeld => ?_)
          clear hK K
          refine sqN 73 ?_
          refine sqP 47 (some 74) (bm 58 281474976710655) ?_
          refine sqP 48 (some 75) (bm 58 562949953421311) ?_
          refine sqP 49 (some 76) (bm 58 1125899906842623) ?_
          refine sqU 50 (some 77) (bm 58 2251799813685247) ?_
          refine sqU 51 (some 78) (bm 58 4503599627370495) ?_
          refine sqU 52 (some 79) (bm 58 9007199254740991) ?_
          refine sqU 53 (some 80) (bm 58 18014398509481983) ?_
          refine sqU 54 (some 81) (bm 58 36028797018963967) ?_
          refine sqU 55 (some 82) (bm 58 72057594037927935) ?_
          refine sqU 56 (some 83) (bm 58 144115188075855871) ?_
          refine sqP 57 (some 84) (bm 58 288230376151711743) ?_
          refine done_ (done_of HT_.out (by kernel_rfl)) ?_
          try go_wp2
          go_meet
          case rel => exact ⟨_, (true), sqE, H', ⟨by have := HK1.out; first | omega | exact Nat.le_refl _⟩, ⟨by (with_reducible repeat (first | refine blk_drewN ?_ _ | refine blk_drew ?_ | refine blk_alloc ?_ _)); exact BK539.out⟩, ⟨by (with_reducible repeat (first | refine blk_drewN ?_ _ | refine blk_drew ?_ | refine blk_alloc ?_ _)); exact BK540.out⟩, ⟨by repeat (first | (with_reducible first | exact HB.out | apply below_alloc | apply pw_below_drewN | apply below_drew1 | refine below_set ?_ GE539.out | refine below_set ?_ GE540.out) | exact HB.out)⟩⟩
         rw [if_neg c34] at H
         have c34b0 := beq_eq_false_iff_ne.mpr c34
         have c34b1 := bne_iff_ne.mpr c34
         have H' := Aside0.mk H
         clear H
         refine sqP 0 (some 27) (bm 58 1) ?_
         refine sqP 2 (some 29) (bm 58 5) ?_
         refine sqT 1 (some 28) (bm 58 7) ?_
         refine sqT 3 (some 30) (bm 58 15) ?_
         refine sqP 4 (some 31) (bm 58 31) ?_
         refine sqP 5 (some 32) (bm 58 63) ?_
         refine sqP 6 (some 33) (bm 58 127) ?_
         refine sqP 8 (some 35) (bm 58 383) ?_
         refine sqT 7 (some 34) (bm 58 511) ?_
         refine sqT 9 (some 36) (bm 58 1023) ?_
         refine sqP 10 (some 37) (bm 58 2047) ?_
         refine sqP 11 (some 38) (bm 58 4095) ?_
         refine sqP 12 (some 39) (bm 58 8191) ?_
         refine sqP 13 (some 40) (bm 58 16383) ?_
         refine sqP 15 (some 42) (bm 58 49151) ?_
         refine sqT 14 (some 41) (bm 58 65535) ?_
         refine sqT 16 (some 43) (bm 58 131071) ?_
         refine sqP 17 (some 44) (bm 58 262143) ?_
         refine sqP 18 (some 45) (bm 58 524287) ?_
         refine sqP 19 (some 46) (bm 58 1048575) ?_
         refine sqP 20 (some 47) (bm 58 2097151) ?_
         refine sqP 22 (some 49) (bm 58 6291455) ?_
         refine sqT 21 (some 48) (bm 58 8388607) ?_
         refine sqT 23 (some 50) (bm 58 16777215) ?_
         refine sqP 24 (some 51) (bm 58 33554431) ?_
         refine sqP 25 (some 52) (bm 58 67108863) ?_
         refine sqP 26 (some 53) (bm 58 134217727) ?_
         refine sqP 27 (some 54) (bm 58 268435455) ?_
         refine sqP 29 (some 56) (bm 58 805306367) ?_
         refine sqT 28 (some 55) (bm 58 1073741823) ?_
         refine sqT 30 (some 57) (bm 58 2147483647) ?_
         refine sqP 31 (some 58) (bm 58 4294967295) ?_
         refine sqP 32 (some 59) (bm 58 8589934591) ?_
         refine sqP 33 (some 60) (bm 58 17179869183) ?_
         refine sqP 34 (some 61) (bm 58 34359738367) ?_
         refine sqP 36 (some 63) (bm 58 103079215103) ?_
         refine sqT 35 (some 62) (bm 58 137438953471) ?_
         refine sqT 37 (some 64) (bm 58 274877906943) ?_
         refine sqP 38 (some 65) (bm 58 549755813887) ?_
         refine sqP 39 (some 66) (bm 58 1099511627775) ?_
         refine sqP 40 (some 67) (bm 58 2199023255551) ?_
         refine sqU 41 (some 68) (bm 58 4398046511103) ?_
         refine sqU 42 (some 69) (bm 58 8796093022207) ?_
         refine sqU 43 (some 70) (bm 58 17592186044415) ?_
         refine sqU 44 (some 71) (bm 58 35184372088831) ?_
         refine sqU 45 (some 72) (bm 58 70368744177663) ?_
         refine sqU 46 (some 73) (bm 58 140737488355327) ?_
         refine sqU 47 (some 74) (bm 58 281474976710655) ?_
         refine sqP 48 (some 75) (bm 58 562949953421311) ?_
         refine sqP 49 (some 76) (bm 58 1125899906842623) ?_
         refine sqU 50 (some 77) (bm 58 2251799813685247) ?_
         refine sqU 51 (some 78) (bm 58 4503599627370495) ?_
         refine sqU 52 (some 79) (bm 58 9007199254740991) ?_
         refine sqU 53 (some 80) (bm 58 18014398509481983) ?_
         refine sqU 54 (some 81) (bm 58 36028797018963967) ?_
         refine sqU 55 (some 82) (bm 58 72057594037927935) ?_
         refine sqU 56 (some 83) (bm 58 144115188075855871) ?_
         refine sqP 57 (some 84) (bm 58 288230376151711743) ?_
         refine done_ (done_of HT_.out (by kernel_rfl)) ?_
         try go_wp2
         go_meet
         case rel => exact ⟨_, (true), sqE, H', ⟨by have := HK1.out; first | omega | exact Nat.le_refl _⟩, ⟨by (with_reducible repeat (first | refine blk_drewN ?_ _ | refine blk_drew ?_ | refine blk_alloc ?_ _)); exact BK539.out⟩, ⟨by (with_reducible repeat (first | refine blk_drewN ?_ _ | refine blk_drew ?_ | refine blk_alloc ?_ _)); exact BK540.out⟩, ⟨by repeat (first | (with_reducible first | exact HB.out | apply below_alloc | apply pw_below_drewN | apply below_drew1 | refine below_set ?_ GE539.out | refine below_set ?_ GE540.out) | exact HB.out)⟩⟩
        rw [if_neg c33] at H
        have c33b0 := beq_eq_false_iff_ne.mpr c33
        have c33b1 := bne_iff_ne.mpr c33
        have H' := Aside0.mk H
        clear H
        refine sqP 0 (some 27) (bm 58 1) ?_
        refine sqP 2 (some 29) (bm 58 5) ?_
        refine sqT 1 (some 28) (bm 58 7) ?_
        refine sqT 3 (some 30) (bm 58 15) ?_
        refine sqP 4 (some 31) (bm 58 31) ?_
        refine sqP 5 (some 32) (bm 58 63) ?_
        refine sqP 6 (some 33) (bm 58 127) ?_
        refine sqP 8 (some 35) (bm 58 383) ?_
        refine sqT 7 (some 34) (bm 58 511) ?_
        refine sqT 9 (some 36) (bm 58 1023) ?_
        refine sqP 10 (some 37) (bm 58 2047) ?_
        refine sqP 11 (some 38) (bm 58 4095) ?_
        refine sqP 12 (some 39) (bm 58 8191) ?_
        refine sqP 13 (some 40) (bm 58 16383) ?_
        refine sqP 15 (some 42) (bm 58 49151) ?_
        refine sqT 14 (some 41) (bm 58 65535) ?_
        refine sqT 16 (some 43) (bm 58 131071) ?_
        refine sqP 17 (some 44) (bm 58 262143) ?_
        refine sqP 18 (some 45) (bm 58 524287) ?_
        refine sqP 19 (some 46) (bm 58 1048575) ?_
        refine sqP 20 (some 47) (bm 58 2097151) ?_
        refine sqP 22 (some 49) (bm 58 6291455) ?_
        refine sqT 21 (some 48) (bm 58 8388607) ?_
        refine sqT 23 (some 50) (bm 58 16777215) ?_
        refine sqP 24 (some 51) (bm 58 33554431) ?_
        refine sqP 25 (some 52) (bm 58 67108863) ?_
        refine sqP 26 (some 53) (bm 58 134217727) ?_
        refine sqP 27 (some 54) (bm 58 268435455) ?_
        refine sqP 29 (some 56) (bm 58 805306367) ?_
        refine sqT 28 (some 55) (bm 58 1073741823) ?_
        refine sqT 30 (some 57) (bm 58 2147483647) ?_
        refine sqP 31 (some 58) (bm 58 4294967295) ?_
        refine sqP 32 (some 59) (bm 58 8589934591) ?_
        refine sqP 33 (some 60) (bm 58 17179869183) ?_
        refine sqU 34 (some 61) (bm 58 34359738367) ?_
        refine sqU 35 (some 62) (bm 58 68719476735) ?_
        refine sqU 36 (some 63) (bm 58 137438953471) ?_
        refine sqU 37 (some 64) (bm 58 274877906943) ?_
        refine sqU 38 (some 65) (bm 58 549755813887) ?_
        refine sqP 39 (some 66) (bm 58 1099511627775) ?_
        refine sqP 40 (some 67) (bm 58 2199023255551) ?_
        refine sqU 41 (some 68) (bm 58 4398046511103) ?_
        refine sqU 42 (some 69) (bm 58 8796093022207) ?_
        refine sqU 43 (some 70) (bm 58 17592186044415) ?_
        refine sqU 44 (some 71) (bm 58 35184372088831) ?_
        refine sqU 45 (some 72) (bm 58 70368744177663) ?_
        refine sqU 46 (some 73) (bm 58 140737488355327) ?_
        refine sqU 47 (some 74) (bm 58 281474976710655) ?_
        refine sqP 48 (some 75) (bm 58 562949953421311) ?_
        refine sqP 49 (some 76) (bm 58 1125899906842623) ?_
        refine sqU 50 (some 77) (bm 58 2251799813685247) ?_
        refine sqU 51 (some 78) (bm 58 4503599627370495) ?_
        refine sqU 52 (some 79) (bm 58 9007199254740991) ?_
        refine sqU 53 (some 80) (bm 58 18014398509481983) ?_
        refine sqU 54 (some 81) (bm 58 36028797018963967) ?_
        refine sqU 55 (some 82) (bm 58 72057594037927935) ?_
        refine sqU 56 (some 83) (bm 58 144115188075855871) ?_
        refine sqP 57 (some 84) (bm 58 288230376151711743) ?_
        refine done_ (done_of HT_.out (by kernel_rfl)) ?_
        try go_wp2
        go_meet
        case rel => exact ⟨_, (true), sqE, H', ⟨by have := HK1.out; first | omega | exact Nat.le_refl _⟩, ⟨by (with_reducible repeat (first | refine blk_drewN ?_ _ | refine blk_drew ?_ | refine blk_alloc ?_ _)); exact BK539.out⟩, ⟨by (with_reducible repeat (first | refine blk_drewN ?_ _ | refine blk_drew ?_ | refine blk_alloc ?_ _)); exact BK540.out⟩, ⟨by repeat (first | (with_reducible first | exact HB.out | apply below_alloc | apply pw_below_drewN | apply below_drew1 | refine below_set ?_ GE539.out | refine below_set ?_ GE540.out) | exact HB.out)⟩⟩
       rw [if_neg c32] at H
       have c32b0 := beq_eq_false_iff_ne.mpr c32
       have c32b1 := bne_iff_ne.mpr c32
       have H' := Aside0.mk H
       clear H
       refine sqP 0 (some 27) (bm 58 1) ?_
       refine sqP 2 (some 29) (bm 58 5) ?_
       refine sqT 1 (some 28) (bm 58 7) ?_
       refine sqT 3 (some 30) (bm 58 15) ?_
       refine sqP 4 (some 31) (bm 58 31) ?_
       refine sqP 5 (some 32) (bm 58 63) ?_
       refine sqP 6 (some 33) (bm 58 127) ?_
       refine sqP 8 (some 35) (bm 58 383) ?_
       refine sqT 7 (some 34) (bm 58 511) ?_
       refine sqT 9 (some 36) (bm 58 1023) ?_
       refine sqP 10 (some 37) (bm 58 2047) ?_
       refine sqP 11 (some 38) (bm 58 4095) ?_
       refine sqP 12 (some 39) (bm 58 8191) ?_
       refine sqP 13 (some 40) (bm 58 16383) ?_
       refine sqP 15 (some 42) (bm 58 49151) ?_
       refine sqT 14 (some 41) (bm 58 65535) ?_
       refine sqT 16 (some 43) (bm 58 131071) ?_
       refine sqP 17 (some 44) (bm 58 262143) ?_
       refine sqP 18 (some 45) (bm 58 524287) ?_
       refine sqP 19 (some 46) (bm 58 1048575) ?_
       refine sqP 20 (some 47) (bm 58 2097151) ?_
       refine sqP 22 (some 49) (bm 58 6291455) ?_
       refine sqT 21 (some 48) (bm 58 8388607) ?_
       refine sqT 23 (some 50) (bm 58 16777215) ?_
       refine sqP 24 (some 51) (bm 58 33554431) ?_
       refine sqP 25 (some 52) (bm 58 67108863) ?_
       refine sqP 26 (some 53) (bm 58 134217727) ?_
       refine sqU 27 (some 54) (bm 58 268435455) ?_
       refine sqU 28 (some 55) (bm 58 536870911) ?_
       refine sqU 29 (some 56) (bm 58 1073741823) ?_
       refine sqU 30 (some 57) (bm 58 2147483647) ?_
       refine sqU 31 (some 58) (bm 58 4294967295) ?_
       refine sqP 32 (some 59) (bm 58 8589934591) ?_
       refine sqP 33 (some 60) (bm 58 17179869183) ?_
       refine sqU 34 (some 61) (bm 58 34359738367) ?_
       refine sqU 35 (some 62) (bm 58 68719476735) ?_
       refine sqU 36 (some 63) (bm 58 137438953471) ?_
       refine sqU 37 (some 64) (bm 58 274877906943) ?_
       refine sqU 38 (some 65) (bm 58 549755813887) ?_
       refine sqP 39 (some 66) (bm 58 1099511627775) ?_
       refine sqP 40 (some 67) (bm 58 2199023255551) ?_
       refine sqU 41 (some 68) (bm 58 4398046511103) ?_
       refine sqU 42 (some 69) (bm 58 8796093022207) ?_
       refine sqU 43 (some 70) (bm 58 17592186044415) ?_
       refine sqU 44 (some 71) (bm 58 35184372088831) ?_
       refine sqU 45 (some 72) (bm 58 70368744177663) ?_
       refine sqU 46 (some 73) (bm 58 140737488355327) ?_
       refine sqU 47 (some 74) (bm 58 281474976710655) ?_
       refine sqP 48 (some 75) (bm 58 562949953421311) ?_
       refine sqP 49 (some 76) (bm 58 1125899906842623) ?_
       refine sqU 50 (some 77) (bm 58 2251799813685247) ?_
       refine sqU 51 (some 78) (bm 58 4503599627370495) ?_
       refine sqU 52 (some 79) (bm 58 9007199254740991) ?_
       refine sqU 53 (some 80) (bm 58 18014398509481983) ?_
       refine sqU 54 (some 81) (bm 58 36028797018963967) ?_
       refine sqU 55 (some 82) (bm 58 72057594037927935) ?_
       refine sqU 56 (some 83) (bm 58 144115188075855871) ?_
       refine sqP 57 (some 84) (bm 58 288230376151711743) ?_
       refine done_ (done_of HT_.out (by kernel_rfl)) ?_
       try go_wp2
       go_meet
       case rel => exact ⟨_, (true), sqE, H', ⟨by have := HK1.out; first | omega | exact Nat.le_refl _⟩, ⟨by (with_reducible repeat (first | refine blk_drewN ?_ _ | refine blk_drew ?_ | refine blk_alloc ?_ _)); exact BK539.out⟩, ⟨by (with_reducible repeat (first | refine blk_drewN ?_ _ | refine blk_drew ?_ | refine blk_alloc ?_ _)); exact BK540.out⟩, ⟨by repeat (first | (with_reducible first | exact HB.out | apply below_alloc | apply pw_below_drewN | apply below_drew1 | refine below_set ?_ GE539.out | refine below_set ?_ GE540.out) | exact HB.out)⟩⟩
      rw [if_neg c31] at H
      have c31b0 := beq_eq_false_iff_ne.mpr c31
      have c31b1 := bne_iff_ne.mpr c31
      have H' := Aside0.mk H
      clear H
      refine sqP 0 (some 27) (bm 58 1) ?_
      refine sqP 2 (some 29) (bm 58 5) ?_
      refine sqT 1 (some 28) (bm 58 7) ?_
      refine sqT 3 (some 30) (bm 58 15) ?_
      refine sqP 4 (some 31) (bm 58 31) ?_
      refine sqP 5 (some 32) (bm 58 63) ?_
      refine sqP 6 (some 33) (bm 58 127) ?_
      refine sqP 8 (some 35) (bm 58 383) ?_
      refine sqT 7 (some 34) (bm 58 511) ?_
      refine sqT 9 (some 36) (bm 58 1023) ?_
      refine sqP 10 (some 37) (bm 58 2047) ?_
      refine sqP 11 (some 38) (bm 58 4095) ?_
      refine sqP 12 (some 39) (bm 58 8191) ?_
      refine sqP 13 (some 40) (bm 58 16383) ?_
      refine sqP 15 (some 42) (bm 58 49151) ?_
      refine sqT 14 (some 41) (bm 58 65535) ?_
      refine sqT 16 (some 43) (bm 58 131071) ?_
      refine sqP 17 (some 44) (bm 58 262143) ?_
      refine sqP 18 (some 45) (bm 58 524287) ?_
      refine sqP 19 (some 46) (bm 58 1048575) ?_
      refine sqU 20 (some 47) (bm 58 2097151) ?_
      refine sqU 21 (some 48) (bm 58 4194303) ?_
      refine sqU 22 (some 49) (bm 58 8388607) ?_
      refine sqU 23 (some 50) (bm 58 16777215) ?_
      refine sqU 24 (some 51) (bm 58 33554431) ?_
      refine sqP 25 (some 52) (bm 58 67108863) ?_
      refine sqP 26 (some 53) (bm 58 134217727) ?_
      refine sqU 27 (some 54) (bm 58 268435455) ?_
      refine sqU 28 (some 55) (bm 58 536870911) ?_
      refine sqU 29 (some 56) (bm 58 1073741823) ?_
      refine sqU 30 (some 57) (bm 58 2147483647) ?_
      refine sqU 31 (some 58) (bm 58 4294967295) ?_
      refine sqP 32 (some 59) (bm 58 8589934591) ?_
      refine sqP 33 (some 60) (bm 58 17179869183) ?_
      refine sqU 34 (some 61) (bm 58 34359738367) ?_
      refine sqU 35 (some 62) (bm 58 68719476735) ?_
      refine sqU 36 (some 63) (bm 58 137438953471) ?_
      refine sqU 37 (some 64) (bm 58 274877906943) ?_
      refine sqU 38 (some 65) (bm 58 549755813887) ?_
      refine sqP 39 (some 66) (bm 58 1099511627775) ?_
      refine sqP 40 (some 67) (bm 58 2199023255551) ?_
      refine sqU 41 (some 68) (bm 58 4398046511103) ?_
      refine sqU 42 (some 69) (bm 58 8796093022207) ?_
      refine sqU 43 (some 70) (bm 58 17592186044415) ?_
      refine sqU 44 (some 71) (bm 58 35184372088831) ?_
      refine sqU 45 (some 72) (bm 58 70368744177663) ?_
      refine sqU 46 (some 73) (bm 58 140737488355327) ?_
      refine sqU 47 (some 74) (bm 58 281474976710655) ?_
      refine sqP 48 (some 75) (bm 58 562949953421311) ?_
      refine sqP 49 (some 76) (bm 58 1125899906842623) ?_
      refine sqU 50 (some 77) (bm 58 2251799813685247) ?_
      refine sqU 51 (some 78) (bm 58 4503599627370495) ?_
      refine sqU 52 (some 79) (bm 58 9007199254740991) ?_
      refine sqU 53 (some 80) (bm 58 18014398509481983) ?_
      refine sqU 54 (some 81) (bm 58 36028797018963967) ?_
      refine sqU 55 (some 82) (bm 58 72057594037927935) ?_
      refine sqU 56 (some 83) (bm 58 144115188075855871) ?_
      refine sqP 57 (some 84) (bm 58 288230376151711743) ?_
      refine done_ (done_of HT_.out (by kernel_rfl)) ?_
      try go_wp2
      go_meet
      case rel => exact ⟨_, (true), sqE, H', ⟨by have := HK1.out; first | omega | exact Nat.le_refl _⟩, ⟨by (with_reducible repeat (first | refine blk_drewN ?_ _ | refine blk_drew ?_ | refine blk_alloc ?_ _)); exact BK539.out⟩, ⟨by (with_reducible repeat (first | refine blk_drewN ?_ _ | refine blk_drew ?_ | refine blk_alloc ?_ _)); exact BK540.out⟩, ⟨by repeat (first | (with_reducible first | exact HB.out | apply below_alloc | apply pw_below_drewN | apply below_drew1 | refine below_set ?_ GE539.out | refine below_set ?_ GE540.out) | exact HB.out)⟩⟩
     rw [if_neg c30] at H
     have c30b0 := beq_eq_false_iff_ne.mpr c30
     have c30b1 := bne_iff_ne.mpr c30
     have H' := Aside0.mk H
     clear H
     refine sqP 0 (some 27) (bm 58 1) ?_
     refine sqP 2 (some 29) (bm 58 5) ?_
     refine sqT 1 (some 28) (bm 58 7) ?_
     refine sqT 3 (some 30) (bm 58 15) ?_
     refine sqP 4 (some 31) (bm 58 31) ?_
     refine sqP 5 (some 32) (bm 58 63) ?_
     refine sqP 6 (some 33) (bm 58 127) ?_
     refine sqP 8 (some 35) (bm 58 383) ?_
     refine sqT 7 (some 34) (bm 58 511) ?_
     refine sqT 9 (some 36) (bm 58 1023) ?_
     refine sqP 10 (some 37) (bm 58 2047) ?_
     refine sqP 11 (some 38) (bm 58 4095) ?_
     refine sqP 12 (some 39) (bm 58 8191) ?_
     refine sqU 13 (some 40) (bm 58 16383) ?_
     refine sqU 14 (some 41) (bm 58 32767) ?_
     refine sqU 15 (some 42) (bm 58 65535) ?_
     refine sqU 16 (some 43) (bm 58 131071) ?_
     refine sqU 17 (some 44) (bm 58 262143) ?_
     refine sqP 18 (some 45) (bm 58 524287) ?_
     refine sqP 19 (some 46) (bm 58 1048575) ?_
     refine sqU 20 (some 47) (bm 58 2097151) ?_
     refine sqU 21 (some 48) (bm 58 4194303) ?_
     refine sqU 22 (some 49) (bm 58 8388607) ?_
     refine sqU 23 (some 50) (bm 58 16777215) ?_
     refine sqU 24 (some 51) (bm 58 33554431) ?_
     refine sqP 25 (some 52) (bm 58 67108863) ?_
     refine sqP 26 (some 53) (bm 58 134217727) ?_
     refine sqU 27 (some 54) (bm 58 268435455) ?_
     refine sqU 28 (some 55) (bm 58 536870911) ?_
     refine sqU 29 (some 56) (bm 58 1073741823) ?_
     refine sqU 30 (some 57) (bm 58 2147483647) ?_
     refine sqU 31 (some 58) (bm 58 4294967295) ?_
     refine sqP 32 (some 59) (bm 58 8589934591) ?_
     refine sqP 33 (some 60) (bm 58 17179869183) ?_
     refine sqU 34 (some 61) (bm 58 34359738367) ?_
     refine sqU 35 (some 62) (bm 58 68719476735) ?_
     refine sqU 36 (some 63) (bm 58 137438953471) ?_
     refine sqU 37 (some 64) (bm 58 274877906943) ?_
     refine sqU 38 (some 65) (bm 58 549755813887) ?_
     refine sqP 39 (some 66) (bm 58 1099511627775) ?_
     refine sqP 40 (some 67) (bm 58 2199023255551) ?_
     refine sqU 41 (some 68) (bm 58 4398046511103) ?_
     refine sqU 42 (some 69) (bm 58 8796093022207) ?_
     refine sqU 43 (some 70) (bm 58 17592186044415) ?_
     refine sqU 44 (some 71) (bm 58 35184372088831) ?_
     refine sqU 45 (some 72) (bm 58 70368744177663) ?_
     refine sqU 46 (some 73) (bm 58 140737488355327) ?_
     refine sqU 47 (some 74) (bm 58 281474976710655) ?_
     refine sqP 48 (some 75) (bm 58 562949953421311) ?_
     refine sqP 49 (some 76) (bm 58 1125899906842623) ?_
     refine sqU 50 (some 77) (bm 58 2251799813685247) ?_
     refine sqU 51 (some 78) (bm 58 4503599627370495) ?_
     refine sqU 52 (some 79) (bm 58 9007199254740991) ?_
     refine sqU 53 (some 80) (bm 58 18014398509481983) ?_
     refine sqU 54 (some 81) (bm 58 36028797018963967) ?_
     refine sqU 55 (some 82) (bm 58 72057594037927935) ?_
     refine sqU 56 (some 83) (bm 58 144115188075855871) ?_
     refine sqP 57 (some 84) (bm 58 288230376151711743) ?_
     refine done_ (done_of HT_.out (by kernel_rfl)) ?_
     try go_wp2
     go_meet
     case rel => exact ⟨_, (true), sqE, H', ⟨by have := HK1.out; first | omega | exact Nat.le_refl _⟩, ⟨by (with_reducible repeat (first | refine blk_drewN ?_ _ | refine blk_drew ?_ | refine blk_alloc ?_ _)); exact BK539.out⟩, ⟨by (with_reducible repeat (first | refine blk_drewN ?_ _ | refine blk_drew ?_ | refine blk_alloc ?_ _)); exact BK540.out⟩, ⟨by repeat (first | (with_reducible first | exact HB.out | apply below_alloc | apply pw_below_drewN | apply below_drew1 | refine below_set ?_ GE539.out | refine below_set ?_ GE540.out) | exact HB.out)⟩⟩
    rw [if_neg c29] at H
    have c29b0 := beq_eq_false_iff_ne.mpr c29
    have c29b1 := bne_iff_ne.mpr c29
    (first | rw [c29b0] | (simp only [i64_w, i32_w]; rw [c29b0]) | skip)
    have H' := Aside0.mk H
    clear H
    refine sqP 0 (some 27) (bm 58 1) ?_
    refine sqP 2 (some 29) (bm 58 5) ?_
    refine sqT 1 (some 28) (bm 58 7) ?_
    refine sqT 3 (some 30) (bm 58 15) ?_
    refine sqP 4 (some 31) (bm 58 31) ?_
    refine sqP 5 (some 32) (bm 58 63) ?_
    refine sqU 6 (some 33) (bm 58 127) ?_
    refine sqU 7 (some 34) (bm 58 255) ?_
    refine sqU 8 (some 35) (bm 58 511) ?_
    refine sqU 9 (some 36) (bm 58 1023) ?_
    refine sqU 10 (some 37) (bm 58 2047) ?_
    refine sqP 11 (some 38) (bm 58 4095) ?_
    refine sqP 12 (some 39) (bm 58 8191) ?_
    refine sqU 13 (some 40) (bm 58 16383) ?_
    refine sqU 14 (some 41) (bm 58 32767) ?_
    refine sqU 15 (some 42) (bm 58 65535) ?_
    refine sqU 16 (some 43) (bm 58 131071) ?_
    refine sqU 17 (some 44) (bm 58 262143) ?_
    refine sqP 18 (some 45) (bm 58 524287) ?_
    refine sqP 19 (some 46) (bm 58 1048575) ?_
    refine sqU 20 (some 47) (bm 58 2097151) ?_
    refine sqU 21 (some 48) (bm 58 4194303) ?_
    refine sqU 22 (some 49) (bm 58 8388607) ?_
    refine sqU 23 (some 50) (bm 58 16777215) ?_
    refine sqU 24 (some 51) (bm 58 33554431) ?_
    refine sqP 25 (some 52) (bm 58 67108863) ?_
    refine sqP 26 (some 53) (bm 58 134217727) ?_
    refine sqU 27 (some 54) (bm 58 268435455) ?_
    refine sqU 28 (some 55) (bm 58 536870911) ?_
    refine sqU 29 (some 56) (bm 58 1073741823) ?_
    refine sqU 30 (some 57) (bm 58 2147483647) ?_
    refine sqU 31 (some 58) (bm 58 4294967295) ?_
    refine sqP 32 (some 59) (bm 58 8589934591) ?_
    refine sqP 33 (some 60) (bm 58 17179869183) ?_
    refine sqU 34 (some 61) (bm 58 34359738367) ?_
    refine sqU 35 (some 62) (bm 58 68719476735) ?_
    refine sqU 36 (some 63) (bm 58 137438953471) ?_
    refine sqU 37 (some 64) (bm 58 274877906943) ?_
    refine sqU 38 (some 65) (bm 58 549755813887) ?_
    refine sqP 39 (some 66) (bm 58 1099511627775) ?_
    refine sqP 40 (some 67) (bm 58 2199023255551) ?_
    refine sqU 41 (some 68) (bm 58 4398046511103) ?_
    refine sqU 42 (some 69) (bm 58 8796093022207) ?_
    refine sqU 43 (some 70) (bm 58 17592186044415) ?_
    refine sqU 44 (some 71) (bm 58 35184372088831) ?_
    refine sqU 45 (some 72) (bm 58 70368744177663) ?_
    refine sqU 46 (some 73) (bm 58 140737488355327) ?_
    refine sqU 47 (some 74) (bm 58 281474976710655) ?_
    refine sqP 48 (some 75) (bm 58 562949953421311) ?_
    refine sqP 49 (some 76) (bm 58 1125899906842623) ?_
    refine sqU 50 (some 77) (bm 58 2251799813685247) ?_
    refine sqU 51 (some 78) (bm 58 4503599627370495) ?_
    refine sqU 52 (some 79) (bm 58 9007199254740991) ?_
    refine sqU 53 (some 80) (bm 58 18014398509481983) ?_
    refine sqU 54 (some 81) (bm 58 36028797018963967) ?_
    refine sqU 55 (some 82) (bm 58 72057594037927935) ?_
    refine sqU 56 (some 83) (bm 58 144115188075855871) ?_
    refine sqP 57 (some 84) (bm 58 288230376151711743) ?_
    refine done_ (done_of HT_.out (by kernel_rfl)) ?_
    try go_wp2
    go_meet
    case rel => exact ⟨_, (true), sqE, H', ⟨by have := HK1.out; first | omega | exact Nat.le_refl _⟩, ⟨by (with_reducible repeat (first | refine blk_drewN ?_ _ | refine blk_drew ?_ | refine blk_alloc ?_ _)); exact BK539.out⟩, ⟨by (with_reducible repeat (first | refine blk_drewN ?_ _ | refine blk_drew ?_ | refine blk_alloc ?_ _)); exact BK540.out⟩, ⟨by repeat (first | (with_reducible first | exact HB.out | apply below_alloc | apply pw_below_drewN | apply below_drew1 | refine below_set ?_ GE539.out | refine below_set ?_ GE540.out) | exact HB.out)⟩⟩
   case rest =>
    clear HC8
    try clear c2
    try clear p2
    try clear c5
    try clear c29
    try clear c29b0
    try clear c29b1
    try clear c53
    obtain ⟨kq, x84_7, rfl, HA, HJ7, BK539, BK540, HB⟩ := hcut
    cases kq with
    | zero => exact absurd HA.out (by simp [table_Same.j1])
    | succ kj7 =>
     have H := HA.out
     clear HA
     simp only [table_Same.j1] at H
     by_cases c54 : x84_7 = true
     ·subst c54
      have H1 : (some false) = some r := by rw [if_pos rfl] at H; exact H
      clear H
      have H := H1
      clear H1
      obtain rfl := Option.some.inj H
      go_wp2
      go_ret
      exact ⟨sqE', by repeat (first | (with_reducible first | exact HB.out | apply below_alloc | apply pw_below_drewN | apply below_drew1 | refine below_set ?_ GE539.out | refine below_set ?_ GE540.out) | exact HB.out)⟩
     replace c54 := Bool.eq_false_iff.mpr c54
     subst c54
     have H1 : (table_Same.l1 kj7 l0 l1 (l0.length : Int) x16_1 (((rd_T25 l0 x16_1).f4).length : Int) 0 ((rd_T25 l0 x16_1).f0) ((rd_T25 l0 x16_1).f1) ((rd_T25 l0 x16_1).f2) ((rd_T25 l0 x16_1).f3) ((rd_T25 l0 x16_1).f4) ((rd_T25 l0 x16_1).f5) ((rd_T25 l0 x16_1).f6) ((rd_T25 l0 x16_1).f7) ((rd_T25 l1 x16_1).f0) ((rd_T25 l1 x16_1).f1) ((rd_T25 l1 x16_1).f2) ((rd_T25 l1 x16_1).f3) ((rd_T25 l1 x16_1).f4) ((rd_T25 l1 x16_1).f5) ((rd_T25 l1 x16_1).f6) ((rd_T25 l1 x16_1).f7)) = some r := by rw [if_neg (show ¬ (false = true) by decide)] at H; exact H
     clear H
     have H := H1
     clear H1
     have H' := Aside0.mk H
     clear H
     have hnb55 := NB539_540.out
     have hnc55 := NB540_539.out
     have hcz56_0 : wc.cell? ⟨gb539, 0, none⟩ = some (.int .i64 ((rd_T25 l0 x16_1).f0)) := (blk_cell BK539.out 0).trans rfl
     have hcz56_1 : wc.cell? ⟨gb539, 1, none⟩ = some (.int .i64 ((rd_T25 l0 x16_1).f1)) := (blk_cell BK539.out 1).trans rfl
     have hcz56_2 : wc.cell? ⟨gb539, 2, none⟩ = some (.int .i64 ((rd_T25 l0 x16_1).f2)) := (blk_cell BK539.out 2).trans rfl
     have hcz56_3 : wc.cell? ⟨gb539, 3, none⟩ = some (.int .i64 ((rd_T25 l0 x16_1).f3)) := (blk_cell BK539.out 3).trans rfl
     have hcz56_4 : wc.cell? ⟨gb539, 4, none⟩ = some (.slice A537_4 ((rd_T25 l0 x16_1).f4).length c537_4) := (blk_cell BK539.out 4).trans rfl
     have hcz56_5 : wc.cell? ⟨gb539, 5, none⟩ = some (.string ((rd_T25 l0 x16_1).f5)) := (blk_cell BK539.out 5).trans rfl
     have hcz56_6 : wc.cell? ⟨gb539, 6, none⟩ = some (.string ((rd_T25 l0 x16_1).f6)) := (blk_cell BK539.out 6).trans rfl
     have hcz56_7 : wc.cell? ⟨gb539, 7, none⟩ = some (.float .f64 ((rd_T25 l0 x16_1).f7)) := (blk_cell BK539.out 7).trans rfl
     have hfz56_0 := blk_frozen BK539.out 0
     have hfz56_1 := blk_frozen BK539.out 1
     have hfz56_2 := blk_frozen BK539.out 2
     have hfz56_3 := blk_frozen BK539.out 3
     have hfz56_4 := blk_frozen BK539.out 4
     have hfz56_5 := blk_frozen BK539.out 5
     have hfz56_6 := blk_frozen BK539.out 6
     have hfz56_7 := blk_frozen BK539.out 7
     go_wp2
     go_loopg [88] kj7 (fun kq v88 w' => ∃ (x88_3 : Int), v88 = .int .i64 x88_3 ∧ Aside0 (table_Same.l1 kq l0 l1 (l0.length : Int) x16_1 (((rd_T25 l0 x16_1).f4).length : Int) x88_3 ((rd_T25 l0 x16_1).f0) ((rd_T25 l0 x16_1).f1) ((rd_T25 l0 x16_1).f2) ((rd_T25 l0 x16_1).f3) ((rd_T25 l0 x16_1).f4) ((rd_T25 l0 x16_1).f5) ((rd_T25 l0 x16_1).f6) ((rd_T25 l0 x16_1).f7) ((rd_T25 l1 x16_1).f0) ((rd_T25 l1 x16_1).f1) ((rd_T25 l1 x16_1).f2) ((rd_T25 l1 x16_1).f3) ((rd_T25 l1 x16_1).f4) ((rd_T25 l1 x16_1).f5) ((rd_T25 l1 x16_1).f6) ((rd_T25 l1 x16_1).f7) = some r) ∧ Aside0 (kq ≤ kj7) ∧ Aside0 (w'.heap[gb539]? = some (.cells #[.int .i64 ((rd_T25 l0 x16_1).f0), .int .i64 ((rd_T25 l0 x16_1).f1), .int .i64 ((rd_T25 l0 x16_1).f2), .int .i64 ((rd_T25 l0 x16_1).f3), (.slice A537_4 ((rd_T25 l0 x16_1).f4).length c537_4), .string ((rd_T25 l0 x16_1).f5), .string ((rd_T25 l0 x16_1).f6), .float .f64 ((rd_T25 l0 x16_1).f7)] 25 (0, 0))) ∧ Aside0 (w'.heap[gb540]? = some (.cells #[.int .i64 ((rd_T25 l1 x16_1).f0), .int .i64 ((rd_T25 l1 x16_1).f1), .int .i64 ((rd_T25 l1 x16_1).f2), .int .i64 ((rd_T25 l1 x16_1).f3), (.slice A538_4 ((rd_T25 l1 x16_1).f4).length c538_4), .string ((rd_T25 l1 x16_1).f5), .string ((rd_T25 l1 x16_1).f6), .float .f64 ((rd_T25 l1 x16_1).f7)] 25 (0, 0))) ∧ Aside0 (Below w.heap.size w w'))
     case atStart => exact ⟨(0), sqE, H', ⟨Nat.le_refl _⟩, ⟨by (with_reducible repeat (first | refine blk_drewN ?_ _ | refine blk_drew ?_ | refine blk_alloc ?_ _)); exact BK539.out⟩, ⟨by (with_reducible repeat (first | refine blk_drewN ?_ _ | refine blk_drew ?_ | refine blk_alloc ?_ _)); exact BK540.out⟩, ⟨by repeat (first | (with_reducible first | exact HB.out | apply below_alloc | apply pw_below_drewN | apply below_drew1 | refine below_set ?_ GE539.out | refine below_set ?_ GE540.out) | exact HB.out)⟩⟩
     case round =>
      clear H'
      try clear c2
      try clear p2
      try clear c5
      try clear c29
      try clear c29b0
      try clear c29b1
      try clear c53
      try clear c54
      try clear c55
      try clear hcz56_0
      try clear hcz56_1
      try clear hcz56_2
      try clear hcz56_3
      try clear hcz56_4
      try clear hcz56_5
      try clear hcz56_6
      try clear hcz56_7
      try clear hfz56_0
      try clear hfz56_1
      try clear hfz56_2
      try clear hfz56_3
      try clear hfz56_4
      try clear hfz56_5
      try clear hfz56_6
      try clear hfz56_7
      try clear p2
      obtain ⟨x88_3, rfl, HA, HK3, BK539, BK540, HB⟩ := hrel
      cases gk with
      | zero => exact absurd HA.out (by simp [table_Same.l1])
      | succ k3 =>
       have H := HA.out
       clear HA
       simp only [table_Same.l1] at H
       by_cases c57 : x88_3 < (((rd_T25 l0 x16_1).f4).length : Int)
       case neg =>
        rw [if_neg c57] at H
        have c57b0 := decide_eq_false c57
        clear c57
        have H' := Aside0.mk H
        clear H
        go_wp2
        go_roundg k3
        case measure => have := HK1.out; have := HJ7.out; have := HK3.out; omega
        case rel => exact ⟨(wrap64 (x16_1 + 1)), sqE, H', ⟨by have := HK1.out; have := HJ7.out; have := HK3.out; omega⟩, ⟨by repeat (first | (with_reducible first | exact HB.out | apply below_alloc | apply pw_below_drewN | apply below_drew1 | refine below_set ?_ GE539.out | refine below_set ?_ GE540.out) | exact HB.out)⟩⟩
       rw [if_pos c57] at H
       have c57b0 := decide_eq_true c57
       clear c57
       by_cases c58 : 0 ≤ x88_3
       case neg => rw [if_neg c58] at H; exact absurd H (by simp)
       rw [if_pos c58] at H
       have c58b0 := decide_eq_true c58
       clear c58
       by_cases c59 : x88_3 < (((rd_T25 l0 x16_1).f4).length : Int)
       case neg => rw [if_neg c59] at H; exact absurd H (by simp)
       rw [if_pos c59] at H
       have c59b0 := decide_eq_true c59
       clear c59
       by_cases c60 : x88_3 < (((rd_T25 l1 x16_1).f4).length : Int)
       case neg => rw [if_neg c60] at H; exact absurd H (by simp)
       rw [if_pos c60] at H
       have c60b0 := decide_eq_true c60
       clear c60
       by_cases c61 : (rd ((rd_T25 l0 x16_1).f4) x88_3) = (rd ((rd_T25 l1 x16_1).f4) x88_3)
       ·rw [if_pos c61] at H
        have c61b0 := beq_iff_eq.mpr c61
        have c61b1 := bne_eq_false_iff_eq.mpr c61
        clear c61
        have H' := Aside0.mk H
        clear H
        try go_wp2
        have n0_ := Aside0.mk (blk_drew BK539.out)
        have n1_ := Aside0.mk (blk_drew BK540.out)
        have n2_ := Aside0.mk (below_drew1 HB.out)
        clear BK539
        clear BK540
        clear HB
        have BK539 := n0_
        have BK540 := n1_
        have HB := n2_
        clear n0_ n1_ n2_
        have p543 : 0 ≤ (x88_3 : Int) := sqD
        have q543 : x88_3 < (((rd_T25 l0 x16_1).f4).length : Int) := sqD
        obtain ⟨ad543, e543, hx543_0⟩ := Kd.at_int HR537_4.out x88_3 p543 q543
        have hw543_0 := hx543_0
        cases e543
        replace hx543_0 := (HB.out.cell (World.block_lt_of_cell? w _ hx543_0)).trans hx543_0
        replace p543 := eq_true p543
        replace q543 := eq_true q543
        have p544 : 0 ≤ (x88_3 : Int) := sqD
        have q544 : x88_3 < (((rd_T25 l1 x16_1).f4).length : Int) := sqD
        obtain ⟨ad544, e544, hx544_0⟩ := Kd.at_int HR538_4.out x88_3 p544 q544
        have hw544_0 := hx544_0
        cases e544
        replace hx544_0 := (HB.out.cell (World.block_lt_of_cell? w _ hx544_0)).trans hx544_0
        replace p544 := eq_true p544
        replace q544 := eq_true q544
        refine start_ (n := 11) (S := fun w' => w'.cell? ⟨gb539, 0, none⟩ = some (.int .i64 ((rd_T25 l0 x16_1).f0)) ∧ w'.cell? ⟨gb539, 1, none⟩ = some (.int .i64 ((rd_T25 l0 x16_1).f1)) ∧ w'.cell? ⟨gb539, 2, none⟩ = some (.int .i64 ((rd_T25 l0 x16_1).f2)) ∧ w'.cell? ⟨gb539, 3, none⟩ = some (.int .i64 ((rd_T25 l0 x16_1).f3)) ∧ w'.cell? ⟨gb539, 4, none⟩ = some (.slice (some ad543) ((rd_T25 l0 x16_1).f4).length c537_4) ∧ w'.cell? ⟨gb539, 5, none⟩ = some (.string ((rd_T25 l0 x16_1).f5)) ∧ w'.cell? ⟨gb539, 6, none⟩ = some (.string ((rd_T25 l0 x16_1).f6)) ∧ w'.cell? ⟨gb539, 7, none⟩ = some (.float .f64 ((rd_T25 l0 x16_1).f7)) ∧ w'.cell? ⟨gb540, 0, none⟩ = some (.int .i64 ((rd_T25 l1 x16_1).f0)) ∧ w'.cell? ⟨gb540, 1, none⟩ = some (.int .i64 ((rd_T25 l1 x16_1).f1)) ∧ w'.cell? ⟨gb540, 2, none⟩ = some (.int .i64 ((rd_T25 l1 x16_1).f2)) ∧ w'.cell? ⟨gb540, 3, none⟩ = some (.int .i64 ((rd_T25 l1 x16_1).f3)) ∧ w'.cell? ⟨gb540, 4, none⟩ = some (.slice (some ad544) ((rd_T25 l1 x16_1).f4).length c538_4) ∧ w'.cell? ⟨gb540, 5, none⟩ = some (.string ((rd_T25 l1 x16_1).f5)) ∧ w'.cell? ⟨gb540, 6, none⟩ = some (.string ((rd_T25 l1 x16_1).f6)) ∧ w'.cell? ⟨gb540, 7, none⟩ = some (.float .f64 ((rd_T25 l1 x16_1).f7)) ∧ w'.cell? (ad543.add (x88_3).toNat) = some (.int .i32 (rd ((rd_T25 l0 x16_1).f4) x88_3)) ∧ w'.cell? (ad544.add (x88_3).toNat) = some (.int .i32 (rd ((rd_T25 l1 x16_1).f4) x88_3))) (ds := []) (bm 11 0) (by kernel_rfl) rfl rfl ⟨(blk_cell BK539.out 0).trans rfl, (blk_cell BK539.out 1).trans rfl, (blk_cell BK539.out 2).trans rfl, (blk_cell BK539.out 3).trans rfl, (blk_cell BK539.out 4).trans rfl, (blk_cell BK539.out 5).trans rfl, (blk_cell BK539.out 6).trans rfl, (blk_cell BK539.out 7).trans rfl, (blk_cell BK540.out 0).trans rfl, (blk_cell BK540.out 1).trans rfl, (blk_cell BK540.out 2).trans rfl, (blk_cell BK540.out 3).trans rfl, (blk_cell BK540.out 4).trans rfl, (blk_cell BK540.out 5).trans rfl, (blk_cell BK540.out 6).trans rfl, (blk_cell BK540.out 7).trans rfl, ((HB.out.cell (World.block_lt_of_cell? w _ hw543_0)).trans hw543_0), ((HB.out.cell (World.block_lt_of_cell? w _ hw544_0)).trans hw544_0)⟩ (fun hHeld => ?_); refine with_tabW table_Same.tab12 table_Same.bits12 (fun HT_ HW_ => ?_)
        generalize wr.drew = w62 at BK539 BK540 HB hx543_0 hx544_0 hHeld ⊢
        refine sqP 0 (some 91) (bm 11 1) ?_
        refine sqP 2 (some 93) (bm 11 5) ?_
        refine sqP 5 (some 96) (bm 11 37) ?_
        refine sqP 7 (some 98) (bm 11 165) ?_
        refine sqT 1 (some 92) (bm 11 167) ?_
        refine sqP 3 (some 94) (bm 11 175) ?_
        refine sqT 4 (some 95) (bm 11 191) ?_
        refine sqT 6 (some 97) (bm 11 255) ?_
        refine sqP 8 (some 99) (bm 11 511) ?_
        refine sqT 9 (some 100) (bm 11 1023) ?_
        refine sqP 10 (some 101) (bm 11 2047) ?_
        refine done_ (done_of HT_.out (by kernel_rfl)) ?_
        try go_wp2
        go_roundg k3
        case measure => have := HK1.out; have := HJ7.out; have := HK3.out; omega
        case rel => exact ⟨(wrap64 (x88_3 + 1)), sqE, H', ⟨by have := HK1.out; have := HJ7.out; have := HK3.out; omega⟩, ⟨by (with_reducible repeat (first | refine blk_drewN ?_ _ | refine blk_drew ?_ | refine blk_alloc ?_ _)); exact BK539.out⟩, ⟨by (with_reducible repeat (first | refine blk_drewN ?_ _ | refine blk_drew ?_ | refine blk_alloc ?_ _)); exact BK540.out⟩, ⟨by repeat (first | (with_reducible first | exact HB.out | apply below_alloc | apply pw_below_drewN | apply below_drew1 | refine below_set ?_ GE539.out | refine below_set ?_ GE540.out) | exact HB.out)⟩⟩
       rw [if_neg c61] at H
       have c61b0 := beq_eq_false_iff_ne.mpr c61
       have c61b1 := bne_iff_ne.mpr c61
       obtain rfl := Option.some.inj H
       try go_wp2
       have n0_ := Aside0.mk (blk_drew BK539.out)
       have n1_ := Aside0.mk (blk_drew BK540.out)
       have n2_ := Aside0.mk (below_drew1 HB.out)
       clear BK539
       clear BK540
       clear HB
       have BK539 := n0_
       have BK540 := n1_
       have HB := n2_
       clear n0_ n1_ n2_
       have p543 : 0 ≤ (x88_3 : Int) := sqD
       have q543 : x88_3 < (((rd_T25 l0 x16_1).f4).length : Int) := sqD
       obtain ⟨ad543, e543, hx543_0⟩ := Kd.at_int HR537_4.out x88_3 p543 q543
       have hw543_0 := hx543_0
       cases e543
       replace hx543_0 := (HB.out.cell (World.block_lt_of_cell? w _ hx543_0)).trans hx543_0
       replace p543 := eq_true p543
       replace q543 := eq_true q543
       have p544 : 0 ≤ (x88_3 : Int) := sqD
       have q544 : x88_3 < (((rd_T25 l1 x16_1).f4).length : Int) := sqD
       obtain ⟨ad544, e544, hx544_0⟩ := Kd.at_int HR538_4.out x88_3 p544 q544
       have hw544_0 := hx544_0
       cases e544
       replace hx544_0 := (HB.out.cell (World.block_lt_of_cell? w _ hx544_0)).trans hx544_0
       replace p544 := eq_true p544
       replace q544 := eq_true q544
       refine start_ (n := 11) (S := fun w' => w'.cell? ⟨gb539, 0, none⟩ = some (.int .i64 ((rd_T25 l0 x16_1).f0)) ∧ w'.cell? ⟨gb539, 1, none⟩ = some (.int .i64 ((rd_T25 l0 x16_1).f1)) ∧ w'.cell? ⟨gb539, 2, none⟩ = some (.int .i64 ((rd_T25 l0 x16_1).f2)) ∧ w'.cell? ⟨gb539, 3, none⟩ = some (.int .i64 ((rd_T25 l0 x16_1).f3)) ∧ w'.cell? ⟨gb539, 4, none⟩ = some (.slice (some ad543) ((rd_T25 l0 x16_1).f4).length c537_4) ∧ w'.cell? ⟨gb539, 5, none⟩ = some (.string ((rd_T25 l0 x16_1).f5)) ∧ w'.cell? ⟨gb539, 6, none⟩ = some (.string ((rd_T25 l0 x16_1).f6)) ∧ w'.cell? ⟨gb539, 7, none⟩ = some (.float .f64 ((rd_T25 l0 x16_1).f7)) ∧ w'.cell? ⟨gb540, 0, none⟩ = some (.int .i64 ((rd_T25 l1 x16_1).f0)) ∧ w'.cell? ⟨gb540, 1, none⟩ = some (.int .i64 ((rd_T25 l1 x16_1).f1)) ∧ w'.cell? ⟨gb540, 2, none⟩ = some (.int .i64 ((rd_T25 l1 x16_1).f2)) ∧ w'.cell? ⟨gb540, 3, none⟩ = some (.int .i64 ((rd_T25 l1 x16_1).f3)) ∧ w'.cell? ⟨gb540, 4, none⟩ = some (.slice (some ad544) ((rd_T25 l1 x16_1).f4).length c538_4) ∧ w'.cell? ⟨gb540, 5, none⟩ = some (.string ((rd_T25 l1 x16_1).f5)) ∧ w'.cell? ⟨gb540, 6, none⟩ = some (.string ((rd_T25 l1 x16_1).f6)) ∧ w'.cell? ⟨gb540, 7, none⟩ = some (.float .f64 ((rd_T25 l1 x16_1).f7)) ∧ w'.cell? (ad543.add (x88_3).toNat) = some (.int .i32 (rd ((rd_T25 l0 x16_1).f4) x88_3)) ∧ w'.cell? (ad544.add (x88_3).toNat) = some (.int .i32 (rd ((rd_T25 l1 x16_1).f4) x88_3))) (ds := []) (bm 11 0) (by kernel_rfl) rfl rfl ⟨(blk_cell BK539.out 0).trans rfl, (blk_cell BK539.out 1).trans rfl, (blk_cell BK539.out 2).trans rfl, (blk_cell BK539.out 3).trans rfl, (blk_cell BK539.out 4).trans rfl, (blk_cell BK539.out 5).trans rfl, (blk_cell BK539.out 6).trans rfl, (blk_cell BK539.out 7).trans rfl, (blk_cell BK540.out 0).trans rfl, (blk_cell BK540.out 1).trans rfl, (blk_cell BK540.out 2).trans rfl, (blk_cell BK540.out 3).trans rfl, (blk_cell BK540.out 4).trans rfl, (blk_cell BK540.out 5).trans rfl, (blk_cell BK540.out 6).trans rfl, (blk_cell BK540.out 7).trans rfl, ((HB.out.cell (World.block_lt_of_cell? w _ hw543_0)).trans hw543_0), ((HB.out.cell (World.block_lt_of_cell? w _ hw544_0)).trans hw544_0)⟩ (fun hHeld => ?_); refine with_tabW table_Same.tab12 table_Same.bits12 (fun HT_ HW_ => ?_)
       generalize wr.drew = w63 at BK539 BK540 HB hx543_0 hx544_0 hHeld ⊢
       refine sqP 0 (some 91) (bm 11 1) ?_
       refine sqP 2 (some 93) (bm 11 5) ?_
       refine sqP 5 (some 96) (bm 11 37) ?_
       refine sqP 7 (some 98) (bm 11 165) ?_
       refine sqT 1 (some 92) (bm 11 167) ?_
       refine sqP 3 (some 94) (bm 11 175) ?_
       refine sqT 4 (some 95) (bm 11 191) ?_
       refine sqT 6 (some 97) (bm 11 255) ?_
       refine sqP 8 (some 99) (bm 11 511) ?_
       refine sqT 9 (some 100) (bm 11 1023) ?_
       refine sqP 10 (some 101) (bm 11 2047) ?_
       refine done_ (done_of HT_.out (by kernel_rfl)) ?_
       try go_wp2
       go_ret
       exact ⟨sqE', by repeat (first | (with_reducible first | exact HB.out | apply below_alloc | apply pw_below_drewN | apply below_drew1 | refine below_set ?_ GE539.out | refine below_set ?_ GE540.out) | exact HB.out)⟩
end Go.Proofs.YtnoppeocbfapdaaGreatDoor.T
