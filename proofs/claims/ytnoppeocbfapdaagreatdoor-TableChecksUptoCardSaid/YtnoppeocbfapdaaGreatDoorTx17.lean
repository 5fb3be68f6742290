import Derived.Test.YtnoppeocbfapdaaGreatDoorTx0
import Derived.Test.YtnoppeocbfapdaaGreatDoorTx1
import Derived.Test.YtnoppeocbfapdaaGreatDoorTx16
namespace Go.Proofs.YtnoppeocbfapdaaGreatDoor.T
open Go.RowKit Go.Proofs.YtnoppeocbfapdaaGreatDoorW.PrintWords Go.Proofs.YtnoppeocbfapdaaGreatDoorW.PrintLast Go.Proofs.YtnoppeocbfapdaaGreatDoorW.PrintMore
set_option maxHeartbeats 8000000
set_option maxRecDepth 100000
attribute [local go_sem] max2_int min2_int max_two min_two max_three min_three max_four min_four
set_option linter.unusedVariables false
set_option linter.unusedSimpArgs false
def endonymref6_SameRecord.f (k : Nat) (a0_0 : Int) (a0_1 : Int) (a0_2 : Int) (a0_3 : Int) (l0_4 : List Int) (a0_5 : ByteArray) (a0_6 : ByteArray) (a0_7 : Nat) (a1_0 : Int) (a1_1 : Int) (a1_2 : Int) (a1_3 : Int) (l1_4 : List Int) (a1_5 : ByteArray) (a1_6 : ByteArray) (a1_7 : Nat) : Option (Bool) := if a0_0 = a1_0 then (if a0_1 = a1_1 then (if a0_2 = a1_2 then (if a0_3 = a1_3 then ((endonymref3_Same.f k l0_4 l1_4).bind fun t542 => (if t542 = true then (if a0_5.toList = a1_5.toList then (if a0_6.toList = a1_6.toList then ((api_Bits.f a0_7).bind fun t543 => ((api_Bits.f a1_7).bind fun t544 => (some (t543 == t544)))) else (none)) else (none)) else (none))) else (none)) else (none)) else (none)) else (none)
theorem endonymref6_SameRecord.mono : ∀ a0 a1 a2 a3 a4 a5 a6 a7 a8 a9 a10 a11 a12 a13 a14 a15 k, LeO (endonymref6_SameRecord.f k a0 a1 a2 a3 a4 a5 a6 a7 a8 a9 a10 a11 a12 a13 a14 a15) (endonymref6_SameRecord.f (k + 1) a0 a1 a2 a3 a4 a5 a6 a7 a8 a9 a10 a11 a12 a13 a14 a15) := by
 intro a0 a1 a2 a3 a4 a5 a6 a7 a8 a9 a10 a11 a12 a13 a14 a15 k
 unfold endonymref6_SameRecord.f
 repeat' first | (with_reducible first | apply endonymref3_Same.mono | apply LeO.refl | apply LeO.none | refine LeO.ite ?_ ?_ | refine LeO.bind ?_ (fun _ => ?_)) | apply LeO.none | refine LeO.ite ?_ ?_ | refine LeO.bind ?_ (fun _ => ?_)
def endonymref6_SameRecord.T1 : Bool × List (List Nat × List Nat) := (true, [([], []), ([0], [0]), ([], []), ([2], [2]), ([1, 3], [1, 3]), ([4], [4]), ([5], [5]), ([6, 5], [5, 6]), ([5], [5]), ([8, 5], [5, 8]), ([7, 9, 5], [5, 7, 9]), ([5, 10], [5, 10]), ([11, 5], [11]), ([12], [12]), ([13, 12], [12, 13]), ([12], [12]), ([15, 12], [12, 15]), ([14, 16, 12], [12, 14, 16]), ([12, 17], [12, 17]), ([18, 12], [18]), ([19], [19]), ([20, 19], [19, 20]), ([19], [19]), ([22, 19], [19, 22]), ([21, 23, 19], [19, 21, 23]), ([19, 24], [19, 24]), ([25, 19], [25]), ([26], [26]), ([27, 26], [26, 27]), ([26], [26]), ([29, 26], [26, 29]), ([28, 30, 26, 26], [26, 28, 30]), ([26, 31], [26, 31]), ([32, 31], [32]), ([33], [33]), ([34, 33], [33, 34]), ([33], [33]), ([36, 33], [33, 36]), ([35, 37, 33], [33, 35, 37]), ([33, 38], [33, 38]), ([39, 33], [39]), ([40], [40]), ([41, 40], [40, 41]), ([40], [40]), ([43, 40], [40, 43]), ([42, 44, 40], [40, 42, 44]), ([40, 45], [40, 45]), ([46, 40], [46]), ([47], [47]), ([48, 47], [47, 48]), ([49, 47, 47], [47, 49]), ([47], [47]), ([51, 47], [47, 51]), ([52, 50, 47], [47, 52]), ([50, 53, 47], [47, 50, 53]), ([47, 54], [47, 54]), ([55, 53, 0, 1, 2, 3, 4, 5, 6, 7, 8, 9, 10, 11, 12, 13, 14, 15, 16, 17, 18, 19, 20, 21, 22, 23, 24, 25, 26, 27, 28, 29, 30, 31, 32, 33, 34, 35, 36, 37, 38, 39, 40, 41, 42, 43, 44, 45, 46, 47, 48, 49, 50, 51, 52, 53, 54, 55], [55])])
def endonymref6_SameRecord.B1 : List Nat := [0, 1, 0, 4, 15, 31, 63, 127, 63, 319, 1023, 2047, 4095, 8191, 16383, 8191, 40959, 131071, 262143, 524287, 1048575, 2097151, 1048575, 5242879, 16777215, 33554431, 67108863, 134217727, 268435455, 134217727, 671088639, 2147483647, 4294967295, 8589934591, 17179869183, 34359738367, 17179869183, 85899345919, 274877906943, 549755813887, 1099511627775, 2199023255551, 4398046511103, 2199023255551, 10995116277759, 35184372088831, 70368744177663, 140737488355327, 281474976710655, 562949953421311, 1125899906842623, 281474976710655, 2533274790395903, 9007199254740991, 18014398509481983, 36028797018963967, 72057594037927935]
theorem endonymref6_SameRecord.tab1 : rtab .any (opsOf Tryz.f66 1) = endonymref6_SameRecord.T1 := by kernel_rfl
theorem endonymref6_SameRecord.bits1 : waitsOk endonymref6_SameRecord.T1.2 endonymref6_SameRecord.B1 = true := by kernel_rfl
theorem endonymref6_SameRecord.calls (k : Nat) (a0_0 : Int) (a0_1 : Int) (a0_2 : Int) (a0_3 : Int) (A0_4 : Option Addr) (c0_4 : Nat) (l0_4 : List Int) (a0_5 : ByteArray) (a0_6 : ByteArray) (a0_7 : Nat) (a1_0 : Int) (a1_1 : Int) (a1_2 : Int) (a1_3 : Int) (A1_4 : Option Addr) (c1_4 : Nat) (l1_4 : List Int) (a1_5 : ByteArray) (a1_6 : ByteArray) (a1_7 : Nat) (r : Bool) (w : World) (hr0_4 : Kd.C (Kd.int .i32) w A0_4 l0_4.length l0_4) (hc0_4 : l0_4.length ≤ c0_4) (hr1_4 : Kd.C (Kd.int .i32) w A1_4 l1_4.length l1_4) (hc1_4 : l1_4.length ≤ c1_4) (h : endonymref6_SameRecord.f k a0_0 a0_1 a0_2 a0_3 l0_4 a0_5 a0_6 a0_7 a1_0 a1_1 a1_2 a1_3 l1_4 a1_5 a1_6 a1_7 = some r) :
  Calls Tryz.prog 66 #[.agg #[.int .i64 a0_0, .int .i64 a0_1, .int .i64 a0_2, .int .i64 a0_3, .slice A0_4 l0_4.length c0_4, .string a0_5, .string a0_6, .float .f64 a0_7], .agg #[.int .i64 a1_0, .int .i64 a1_1, .int .i64 a1_2, .int .i64 a1_3, .slice A1_4 l1_4.length c1_4, .string a1_5, .string a1_6, .float .f64 a1_7]] w fun e w' => e = .returned (.bool r) ∧ Below w.heap.size w w' := by
 have hu25 := Tryz.underlying25
 have HR0_4 := Aside0.mk hr0_4
 have HC0_4 := Aside0.mk hc0_4
 clear hr0_4 hc0_4
 have HR1_4 := Aside0.mk hr1_4
 have HC1_4 := Aside0.mk hc1_4
 clear hr1_4 hc1_4
 have HB := Aside0.mk (Below.refl w.heap.size w)
 have H : (if a0_0 = a1_0 then (if a0_1 = a1_1 then (if a0_2 = a1_2 then (if a0_3 = a1_3 then ((endonymref3_Same.f k l0_4 l1_4).bind fun t542 => (if t542 = true then (if a0_5.toList = a1_5.toList then (if a0_6.toList = a1_6.toList then ((api_Bits.f a0_7).bind fun t543 => ((api_Bits.f a1_7).bind fun t544 => (some (t543 == t544)))) else (none)) else (none)) else (none))) else (none)) else (none)) else (none)) else (none)) = some r := h
 clear h
 by_cases c3 : a0_0 = a1_0
 case neg => rw [if_neg c3] at H; exact absurd H (by simp)
 rw [if_pos c3] at H
 have c3b0 := beq_iff_eq.mpr c3
 have c3b1 := bne_eq_false_iff_eq.mpr c3
 clear c3
 by_cases c4 : a0_1 = a1_1
 case neg => rw [if_neg c4] at H; exact absurd H (by simp)
 rw [if_pos c4] at H
 have c4b0 := beq_iff_eq.mpr c4
 have c4b1 := bne_eq_false_iff_eq.mpr c4
 clear c4
 by_cases c5 : a0_2 = a1_2
 case neg => rw [if_neg c5] at H; exact absurd H (by simp)
 rw [if_pos c5] at H
 have c5b0 := beq_iff_eq.mpr c5
 have c5b1 := bne_eq_false_iff_eq.mpr c5
 clear c5
 by_cases c6 : a0_3 = a1_3
 case neg => rw [if_neg c6] at H; exact absurd H (by simp)
 rw [if_pos c6] at H
 have c6b0 := beq_iff_eq.mpr c6
 have c6b1 := bne_eq_false_iff_eq.mpr c6
 clear c6
 obtain ⟨t542, A7, H⟩ := sqO H
 try dsimp only at H
 by_cases c8 : t542 = true
 case neg => rw [if_neg c8] at H; exact absurd H (by simp)
 subst c8
 rw [if_pos rfl] at H
 by_cases c9 : a0_5.toList = a1_5.toList
 case neg => rw [if_neg c9] at H; exact absurd H (by simp)
 rw [if_pos c9] at H
 have c9b0 := beq_iff_eq.mpr c9
 have c9b1 := bne_eq_false_iff_eq.mpr c9
 clear c9
 by_cases c10 : a0_6.toList = a1_6.toList
 case neg => rw [if_neg c10] at H; exact absurd H (by simp)
 rw [if_pos c10] at H
 have c10b0 := beq_iff_eq.mpr c10
 have c10b1 := bne_eq_false_iff_eq.mpr c10
 clear c10
 obtain ⟨t543, A11, H⟩ := sqO H
 try dsimp only at H
 obtain ⟨t544, A12, H⟩ := sqO H
 try dsimp only at H
 obtain rfl := Option.some.inj H
 go_enter Tryz.func66, Tryz.ntmps66
 try go_wp2_with (first | ((with_reducible refine gate_dst (N := 2) rfl ?_); refine box_event ?hg (N := 2) ?hd (cs := #[.int .i64 a0_0, .int .i64 a0_1, .int .i64 a0_2, .int .i64 a0_3, .slice A0_4 l0_4.length c0_4, .string a0_5, .string a0_6, .float .f64 a0_7]) (t := 25) ?hr ?_; (case hd => rfl); (case hg => rfl); (case hr => first | (go_simp; done) | (go_simp; rfl)); intro gb540 hg w13 hbox hb; have n0_ := Aside0.mk (below_step sqB hb); have n1_ := Aside0.mk (hbox); have n2_ := Aside0.mk ((by rw [hg]; exact (below_size sqB) : w.heap.size ≤ gb540)); have n3_ := Aside0.mk ((by rw [hg]; exact (below_size sqB) : w.heap.size ≤ gb540)); clear HB; have HB := n0_; have BK540 := n1_; have GW540 := n2_; have GE540 := n3_; clear n0_ n1_ n2_ n3_; clear hb hbox hg) | ((with_reducible refine gate_dst (N := 3) rfl ?_); refine box_event ?hg (N := 3) ?hd (cs := #[.int .i64 a1_0, .int .i64 a1_1, .int .i64 a1_2, .int .i64 a1_3, .slice A1_4 l1_4.length c1_4, .string a1_5, .string a1_6, .float .f64 a1_7]) (t := 25) ?hr ?_; (case hd => rfl); (case hg => rfl); (case hr => first | (go_simp; done) | (go_simp; rfl)); intro gb541 hg w14 hbox hb; have n0_ := Aside0.mk (sqM BK540.out hb); have n1_ := Aside0.mk (below_step sqH hb); have n2_ := Aside0.mk (hbox); have n3_ := Aside0.mk ((by rw [hg]; exact (below_size sqH) : w.heap.size ≤ gb541)); have n4_ := Aside0.mk ((by rw [hg]; exact (below_size sqH) : w.heap.size ≤ gb541)); have n5_ := Aside0.mk ((by rw [hg]; exact Nat.ne_of_lt (blk_lt (g := gb540) (o := .cells #[.int .i64 a0_0, .int .i64 a0_1, .int .i64 a0_2, .int .i64 a0_3, .slice A0_4 l0_4.length c0_4, .string a0_5, .string a0_6, .float .f64 a0_7] 25 (0, 0)) (sqK BK540.out)) : gb540 ≠ gb541)); have n6_ := Aside0.mk ((by rw [hg]; exact Nat.ne_of_gt (blk_lt (g := gb540) (o := .cells #[.int .i64 a0_0, .int .i64 a0_1, .int .i64 a0_2, .int .i64 a0_3, .slice A0_4 l0_4.length c0_4, .string a0_5, .string a0_6, .float .f64 a0_7] 25 (0, 0)) (sqK BK540.out)) : gb541 ≠ gb540)); clear BK540; clear HB; have BK540 := n0_; have HB := n1_; have BK541 := n2_; have GW541 := n3_; have GE541 := n4_; have NB540_541 := n5_; have NB541_540 := n6_; clear n0_ n1_ n2_ n3_ n4_ n5_ n6_; clear hb hbox hg))
 have n0_ := Aside0.mk (blk_drew BK540.out)
 have n1_ := Aside0.mk (blk_drew BK541.out)
 have n2_ := Aside0.mk (below_drew1 HB.out)
 clear BK540
 clear BK541
 clear HB
 have BK540 := n0_
 have BK541 := n1_
 have HB := n2_
 clear n0_ n1_ n2_
 refine start_ (n := 57) (S := fun w' => w'.cell? ⟨gb540, 0, none⟩ = some (.int .i64 a0_0) ∧ w'.cell? ⟨gb540, 1, none⟩ = some (.int .i64 a0_1) ∧ w'.cell? ⟨gb540, 2, none⟩ = some (.int .i64 a0_2) ∧ w'.cell? ⟨gb540, 3, none⟩ = some (.int .i64 a0_3) ∧ w'.cell? ⟨gb540, 4, none⟩ = some (.slice A0_4 l0_4.length c0_4) ∧ w'.cell? ⟨gb540, 5, none⟩ = some (.string a0_5) ∧ w'.cell? ⟨gb540, 6, none⟩ = some (.string a0_6) ∧ w'.cell? ⟨gb540, 7, none⟩ = some (.float .f64 a0_7) ∧ w'.cell? ⟨gb541, 0, none⟩ = some (.int .i64 a1_0) ∧ w'.cell? ⟨gb541, 1, none⟩ = some (.int .i64 a1_1) ∧ w'.cell? ⟨gb541, 2, none⟩ = some (.int .i64 a1_2) ∧ w'.cell? ⟨gb541, 3, none⟩ = some (.int .i64 a1_3) ∧ w'.cell? ⟨gb541, 4, none⟩ = some (.slice A1_4 l1_4.length c1_4) ∧ w'.cell? ⟨gb541, 5, none⟩ = some (.string a1_5) ∧ w'.cell? ⟨gb541, 6, none⟩ = some (.string a1_6) ∧ w'.cell? ⟨gb541, 7, none⟩ = some (.float .f64 a1_7)) (ds := []) (bm 57 0) (by kernel_rfl) rfl rfl ⟨(blk_cell BK540.out 0).trans rfl, (blk_cell BK540.out 1).trans rfl, (blk_cell BK540.out 2).trans rfl, (blk_cell BK540.out 3).trans rfl, (blk_cell BK540.out 4).trans rfl, (blk_cell BK540.out 5).trans rfl, (blk_cell BK540.out 6).trans rfl, (blk_cell BK540.out 7).trans rfl, (blk_cell BK541.out 0).trans rfl, (blk_cell BK541.out 1).trans rfl, (blk_cell BK541.out 2).trans rfl, (blk_cell BK541.out 3).trans rfl, (blk_cell BK541.out 4).trans rfl, (blk_cell BK541.out 5).trans rfl, (blk_cell BK541.out 6).trans rfl, (blk_cell BK541.out 7).trans rfl⟩ (fun hHeld => ?_); refine with_tabW endonymref6_SameRecord.tab1 endonymref6_SameRecord.bits1 (fun HT_ HW_ => ?_)
 generalize w14.drew = w15 at BK540 BK541 HB hHeld ⊢
 refine sqP 0 (some 5) (bm 57 1) ?_
 refine sqP 2 (some 7) (bm 57 5) ?_
 refine sqT 1 (some 6) (bm 57 7) ?_
 refine sqT 3 (some 8) (bm 57 15) ?_
 refine sqP 4 (some 9) (bm 57 31) ?_
 refine sqP 5 (some 10) (bm 57 63) ?_
 refine sqP 6 (some 11) (bm 57 127) ?_
 refine sqP 8 (some 13) (bm 57 383) ?_
 refine sqT 7 (some 12) (bm 57 511) ?_
 refine sqT 9 (some 14) (bm 57 1023) ?_
 refine sqP 10 (some 15) (bm 57 2047) ?_
 refine sqP 11 (some 16) (bm 57 4095) ?_
 refine sqP 12 (some 17) (bm 57 8191) ?_
 refine sqP 13 (some 18) (bm 57 16383) ?_
 refine sqP 15 (some 20) (bm 57 49151) ?_
 refine sqT 14 (some 19) (bm 57 65535) ?_
 refine sqT 16 (some 21) (bm 57 131071) ?_
 refine sqP 17 (some 22) (bm 57 262143) ?_
 refine sqP 18 (some 23) (bm 57 524287) ?_
 refine sqP 19 (some 24) (bm 57 1048575) ?_
 refine sqP 20 (some 25) (bm 57 2097151) ?_
 refine sqP 22 (some 27) (bm 57 6291455) ?_
 refine sqT 21 (some 26) (bm 57 8388607) ?_
 refine sqT 23 (some 28) (bm 57 16777215) ?_
 refine sqP 24 (some 29) (bm 57 33554431) ?_
 refine sqP 25 (some 30) (bm 57 67108863) ?_
 refine sqP 26 (some 31) (bm 57 134217727) ?_
 refine sqP 27 (some 32) (bm 57 268435455) ?_
 refine sqP 29 (some 34) (bm 57 805306367) ?_
 refine sqT 28 (some 33) (bm 57 1073741823) ?_
 refine sqT 30 (some 35) (bm 57 2147483647) ?_
 refine sqI 31 (some 36) (bm 57 4294967295) (fun K hK => ?_)
 refine goes_ Tryz.func97 (by kernel_rfl) rfl #[.slice A0_4 l0_4.length c0_4, .slice A1_4 l1_4.length c1_4] (by rfl) rfl rfl sqA ?_
 with_reducible refine (endonymref3_Same.calls k _ _ l0_4 _ _ l1_4 true _ ?side1 ?side2 ?side3 ?side4 A7.out).mono ?_
 (case side1 => exact sqC (Kd.C_below HR0_4.out HB.out))
 (case side2 => exact HC0_4.out)
 (case side3 => exact sqC (Kd.C_below HR1_4.out HB.out))
 (case side4 => exact HC1_4.out)
 rintro e w' ⟨rfl, ⟨nd, rfl⟩⟩
 refine ⟨_, rfl, ?_⟩
 refine hK.out _ _ ⟨(blk_cell BK540.out 0).trans rfl, (blk_cell BK540.out 1).trans rfl, (blk_cell BK540.out 2).trans rfl, (blk_cell BK540.out 3).trans rfl, (blk_cell BK540.out 4).trans rfl, (blk_cell BK540.out 5).trans rfl, (blk_cell BK540.out 6).trans rfl, (blk_cell BK540.out 7).trans rfl, (blk_cell BK541.out 0).trans rfl, (blk_cell BK541.out 1).trans rfl, (blk_cell BK541.out 2).trans rfl, (blk_cell BK541.out 3).trans rfl, (blk_cell BK541.out 4).trans rfl, (blk_cell BK541.out 5).trans rfl, (blk_cell BK541.out 6).trans rfl, (blk_cell BK541.out 7).trans rfl⟩ (fun hHeld => ?_)
 clear hK K
 refine sqN 36 ?_
 refine sqP 32 (some 37) (bm 57 8589934591) ?_
 refine sqP 33 (some 38) (bm 57 17179869183) ?_
 refine sqP 34 (some 39) (bm 57 34359738367) ?_
 refine sqP 36 (some 41) (bm 57 103079215103) ?_
 refine sqT 35 (some 40) (bm 57 137438953471) ?_
 refine sqT 37 (some 42) (bm 57 274877906943) ?_
 refine sqP 38 (some 43) (bm 57 549755813887) ?_
 refine sqP 39 (some 44) (bm 57 1099511627775) ?_
 refine sqP 40 (some 45) (bm 57 2199023255551) ?_
 refine sqP 41 (some 46) (bm 57 4398046511103) ?_
 refine sqP 43 (some 48) (bm 57 13194139533311) ?_
 refine sqT 42 (some 47) (bm 57 17592186044415) ?_
 refine sqT 44 (some 49) (bm 57 35184372088831) ?_
 refine sqP 45 (some 50) (bm 57 70368744177663) ?_
 refine sqP 46 (some 51) (bm 57 140737488355327) ?_
 refine sqP 47 (some 52) (bm 57 281474976710655) ?_
 refine sqP 48 (some 53) (bm 57 562949953421311) ?_
 refine sqP 51 (some 56) (bm 57 2814749767106559) ?_
 refine sqT 49 (some 54) (bm 57 3377699720527871) ?_
 refine sqT 52 (some 57) (bm 57 7881299347898367) ?_
 refine sqI 50 (some 55) (bm 57 9007199254740991) (fun K hK => ?_)
 refine goes_ Tryz.func52 (by kernel_rfl) rfl #[.float .f64 a0_7] (by rfl) rfl rfl sqA ?_
 with_reducible refine (api_Bits.calls a0_7 t543 _ A11.out).mono ?_
 rintro e w' ⟨rfl, ⟨nd, rfl⟩⟩
 refine ⟨_, rfl, ?_⟩
 refine hK.out _ _ ⟨(blk_cell BK540.out 0).trans rfl, (blk_cell BK540.out 1).trans rfl, (blk_cell BK540.out 2).trans rfl, (blk_cell BK540.out 3).trans rfl, (blk_cell BK540.out 4).trans rfl, (blk_cell BK540.out 5).trans rfl, (blk_cell BK540.out 6).trans rfl, (blk_cell BK540.out 7).trans rfl, (blk_cell BK541.out 0).trans rfl, (blk_cell BK541.out 1).trans rfl, (blk_cell BK541.out 2).trans rfl, (blk_cell BK541.out 3).trans rfl, (blk_cell BK541.out 4).trans rfl, (blk_cell BK541.out 5).trans rfl, (blk_cell BK541.out 6).trans rfl, (blk_cell BK541.out 7).trans rfl⟩ (fun hHeld => ?_)
 clear hK K
 refine sqN 55 ?_
 refine sqI 53 (some 58) (bm 57 18014398509481983) (fun K hK => ?_)
 refine goes_ Tryz.func52 (by kernel_rfl) rfl #[.float .f64 a1_7] (by rfl) rfl rfl sqA ?_
 with_reducible refine (api_Bits.calls a1_7 t544 _ A12.out).mono ?_
 rintro e w' ⟨rfl, ⟨nd, rfl⟩⟩
 refine ⟨_, rfl, ?_⟩
 refine hK.out _ _ ⟨(blk_cell BK540.out 0).trans rfl, (blk_cell BK540.out 1).trans rfl, (blk_cell BK540.out 2).trans rfl, (blk_cell BK540.out 3).trans rfl, (blk_cell BK540.out 4).trans rfl, (blk_cell BK540.out 5).trans rfl, (blk_cell BK540.out 6).trans rfl, (blk_cell BK540.out 7).trans rfl, (blk_cell BK541.out 0).trans rfl, (blk_cell BK541.out 1).trans rfl, (blk_cell BK541.out 2).trans rfl, (blk_cell BK541.out 3).trans rfl, (blk_cell BK541.out 4).trans rfl, (blk_cell BK541.out 5).trans rfl, (blk_cell BK541.out 6).trans rfl, (blk_cell BK541.out 7).trans rfl⟩ (fun hHeld => ?_)
 clear hK K
 refine sqN 58 ?_
 refine sqP 54 (some 59) (bm 57 36028797018963967) ?_
 refine sqP 55 (some 60) (bm 57 72057594037927935) ?_
 refine sqP 56 (some 4) (bm 57 144115188075855871) ?_
 refine done_ (done_of HT_.out (by kernel_rfl)) ?_
 try go_wp2
 go_ret
 exact ⟨sqE', sqH⟩
end Go.Proofs.YtnoppeocbfapdaaGreatDoor.T
