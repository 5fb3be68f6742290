import Derived.Test.YtfmjdoofopamkaaGreatDoorWx0
import Derived.Test.YtfmjdoofopamkaaGreatDoorWx3
import Derived.Test.YtfmjdoofopamkaaGreatDoorWx4
import Derived.Test.YtfmjdoofopamkaaGreatDoorWx5
import Derived.Test.YtfmjdoofopamkaaGreatDoorWx6
import Derived.Test.YtfmjdoofopamkaaGreatDoorWx17
namespace Go.Proofs.YtfmjdoofopamkaaGreatDoor.W
open Go.RowKit Go.Proofs.YtfmjdoofopamkaaGreatDoorW.PrintWords Go.Proofs.YtfmjdoofopamkaaGreatDoorW.PrintLast Go.Proofs.YtfmjdoofopamkaaGreatDoorW.PrintMore
set_option maxHeartbeats 8000000
set_option maxRecDepth 100000
attribute [local go_sem] max2_int min2_int max_two min_two max_three min_three max_four min_four
set_option linter.unusedVariables false
set_option linter.unusedSimpArgs false
def w2_fraction.f (k : Nat) (a0 : Nat) (a1 : Int) : Option (List Int × List Int) := (w2_parts.f k a0).bind fun bt526 => ((w2_natOf.f k bt526.1).bind fun t528 => ((wn_ten.f k t528 (wrap64 (-a1))).bind fun t531 => ((wn_up.f k t531 bt526.2).bind fun t534 => ((w2_natOf.f k 1).bind fun t537 => ((wn_ten.f k t537 a1).bind fun t540 => ((wn_up.f k t540 (wrap64 (-bt526.2))).bind fun t543 => (some (t534, t543))))))))
theorem w2_fraction.mono : ∀ a0 a1 k, LeO (w2_fraction.f k a0 a1) (w2_fraction.f (k + 1) a0 a1) := by
 intro a0 a1 k
 unfold w2_fraction.f
 repeat' first | (with_reducible first | apply w2_natOf.mono | apply wn_ten.mono | apply wn_up.mono | apply w2_parts.mono | apply LeO.refl | apply LeO.none | refine LeO.ite ?_ ?_ | refine LeO.bind ?_ (fun _ => ?_)) | apply LeO.none | refine LeO.ite ?_ ?_ | refine LeO.bind ?_ (fun _ => ?_)
theorem w2_fraction.calls (k : Nat) (a0 : Nat) (a1 : Int) (r1 : List Int) (r2 : List Int) (w : World) (h : w2_fraction.f k a0 a1 = some (r1, r2)) :
  Calls Tryz.prog 95 #[.float .f64 a0, .int .i64 a1] w fun e w' => ∃ v0_ v1_ : Value, e = .returned (.tuple #[v0_, v1_]) ∧ Kd.V (Kd.int .u32) 83 w' w.heap.size (fun k_ => (w.heap.size ≤ k_)) v0_ r1 ∧ Kd.V (Kd.int .u32) 83 w' w.heap.size (fun k_ => (w.heap.size ≤ k_)) v1_ r2 ∧ Below w.heap.size w w' := by
 have HB := Sd.mk (Below.refl w.heap.size w)
 have H : ((w2_parts.f k a0).bind fun bt526 => ((w2_natOf.f k bt526.1).bind fun t528 => ((wn_ten.f k t528 (wrap64 (-a1))).bind fun t531 => ((wn_up.f k t531 bt526.2).bind fun t534 => ((w2_natOf.f k 1).bind fun t537 => ((wn_ten.f k t537 a1).bind fun t540 => ((wn_up.f k t540 (wrap64 (-bt526.2))).bind fun t543 => (some (t534, t543))))))))) = some (r1, r2) := h
 clear h
 obtain ⟨⟨t526, t527⟩, A3, H⟩ := sqO H
 try dsimp only at H
 obtain ⟨t528, A4, H⟩ := sqO H
 try dsimp only at H
 obtain ⟨t531, A5, H⟩ := sqO H
 try dsimp only at H
 obtain ⟨t534, A6, H⟩ := sqO H
 try dsimp only at H
 obtain ⟨t537, A7, H⟩ := sqO H
 try dsimp only at H
 obtain ⟨t540, A8, H⟩ := sqO H
 try dsimp only at H
 obtain ⟨t543, A9, H⟩ := sqO H
 try dsimp only at H
 simp only [Option.some.injEq, Prod.mk.injEq] at H
 obtain ⟨rfl, rfl⟩ := H
 go_enter Tryz.func95, Tryz.ntmps95
 go_wp2_with (first | ((with_reducible refine gcl (f := 101) rfl ?_); refine gL (some 10) rfl rfl Tryz.func101 (by kernel_rfl) rfl #[.float .f64 a0] rfl sqA ?_; (with_reducible refine (w2_parts.calls k a0 t526 t527 _ A3.out).mono ?_); rintro e w' ⟨rfl, ⟨nd, rfl⟩⟩; refine ⟨_, rfl, ?_⟩) | ((with_reducible refine gcl (f := 28) rfl ?_); refine gL (some 14) rfl rfl Tryz.func28 (by kernel_rfl) rfl #[.int .u64 t526] rfl sqA ?_; (with_reducible refine (w2_natOf.calls k t526 t528 _ A4.out).mono ?_); rintro e w10 ⟨v529, rfl, ho0, hb⟩; refine ⟨_, rfl, ?_⟩; have n0_ := Sd.mk (Kd.V_lower (Kd.V_mono (ok' := fun k_ => (w.heap.size ≤ k_)) ho0 (fun k_ hk_ => (Nat.le_trans (bsz sqB) hk_))) (bsz sqB)); have n1_ := Sd.mk (bst sqB hb); clear HB; have HO530 := n0_; have HB := n1_; clear n0_ n1_; (try clear hb); (try clear hb2); (try clear hk); (try clear hi); (try clear ho0); obtain ⟨Ao11, co11, eo11⟩ := Kd.V_slice HO530.out; subst eo11) | ((with_reducible refine gcl (f := 29) rfl ?_); refine gL (some 17) rfl rfl Tryz.func29 (by kernel_rfl) rfl #[.slice Ao11 t528.length co11, .int .i64 (wrap64 (-a1))] rfl sqA ?_; (with_reducible refine (wn_ten.calls k (fun k_ => (w.heap.size ≤ k_)) _ _ t528 (wrap64 (-a1)) t531 _ ?side1 A5.out).mono ?_); (case side1 => exact HO530.out); rintro e w12 ⟨v532, rfl, ho0, hb⟩; refine ⟨_, rfl, ?_⟩; have n0_ := Sd.mk (Kd.V_below (sqV HO530.out) hb); have n1_ := Sd.mk (Kd.V_lower (Kd.V_mono (ok' := fun k_ => (w.heap.size ≤ k_)) ho0 (fun k_ hk_ => Or.elim hk_ (fun hs_ => hs_) (fun hn_ => (Nat.le_trans (bsz sqB) hn_)))) (bsz sqB)); have n2_ := Sd.mk (bst sqB hb); clear HO530; clear HB; have HO530 := n0_; have HO533 := n1_; have HB := n2_; clear n0_ n1_ n2_; (try clear hb); (try clear hb2); (try clear hk); (try clear hi); (try clear ho0); obtain ⟨Ao13, co13, eo13⟩ := Kd.V_slice HO533.out; subst eo13) | ((with_reducible refine gcl (f := 52) rfl ?_); refine gL (some 19) rfl rfl Tryz.func52 (by kernel_rfl) rfl #[.slice Ao13 t531.length co13, .int .i64 t527] rfl sqA ?_; (with_reducible refine (wn_up.calls k (fun k_ => (w.heap.size ≤ k_)) _ _ t531 t527 t534 _ ?side1 A6.out).mono ?_); (case side1 => exact HO533.out); rintro e w14 ⟨v535, rfl, ho0, hb⟩; refine ⟨_, rfl, ?_⟩; have n0_ := Sd.mk (Kd.V_below (sqV HO530.out) hb); have n1_ := Sd.mk (Kd.V_below (sqV HO533.out) hb); have n2_ := Sd.mk (Kd.V_lower (Kd.V_mono (ok' := fun k_ => (w.heap.size ≤ k_)) ho0 (fun k_ hk_ => Or.elim hk_ (fun hs_ => hs_) (fun hn_ => (Nat.le_trans (bsz sqB) hn_)))) (bsz sqB)); have n3_ := Sd.mk (bst sqB hb); clear HO530; clear HO533; clear HB; have HO530 := n0_; have HO533 := n1_; have HO536 := n2_; have HB := n3_; clear n0_ n1_ n2_ n3_; (try clear hb); (try clear hb2); (try clear hk); (try clear hi); (try clear ho0)) | ((with_reducible refine gcl (f := 28) rfl ?_); refine gL (some 20) rfl rfl Tryz.func28 (by kernel_rfl) rfl #[.int .u64 1] rfl sqA ?_; (with_reducible refine (w2_natOf.calls k 1 t537 _ A7.out).mono ?_); rintro e w15 ⟨v538, rfl, ho0, hb⟩; refine ⟨_, rfl, ?_⟩; have n0_ := Sd.mk (Kd.V_below (sqV HO530.out) hb); have n1_ := Sd.mk (Kd.V_below (sqV HO533.out) hb); have n2_ := Sd.mk (Kd.V_below (sqV HO536.out) hb); have n3_ := Sd.mk (Kd.V_lower (Kd.V_mono (ok' := fun k_ => (w.heap.size ≤ k_)) ho0 (fun k_ hk_ => (Nat.le_trans (bsz sqB) hk_))) (bsz sqB)); have n4_ := Sd.mk (bst sqB hb); clear HO530; clear HO533; clear HO536; clear HB; have HO530 := n0_; have HO533 := n1_; have HO536 := n2_; have HO539 := n3_; have HB := n4_; clear n0_ n1_ n2_ n3_ n4_; (try clear hb); (try clear hb2); (try clear hk); (try clear hi); (try clear ho0); obtain ⟨Ao16, co16, eo16⟩ := Kd.V_slice HO539.out; subst eo16) | ((with_reducible refine gcl (f := 29) rfl ?_); refine gL (some 22) rfl rfl Tryz.func29 (by kernel_rfl) rfl #[.slice Ao16 t537.length co16, .int .i64 a1] rfl sqA ?_; (with_reducible refine (wn_ten.calls k (fun k_ => (w.heap.size ≤ k_)) _ _ t537 a1 t540 _ ?side1 A8.out).mono ?_); (case side1 => exact HO539.out); rintro e w17 ⟨v541, rfl, ho0, hb⟩; refine ⟨_, rfl, ?_⟩; have n0_ := Sd.mk (Kd.V_below (sqV HO530.out) hb); have n1_ := Sd.mk (Kd.V_below (sqV HO533.out) hb); have n2_ := Sd.mk (Kd.V_below (sqV HO536.out) hb); have n3_ := Sd.mk (Kd.V_below (sqV HO539.out) hb); have n4_ := Sd.mk (Kd.V_lower (Kd.V_mono (ok' := fun k_ => (w.heap.size ≤ k_)) ho0 (fun k_ hk_ => Or.elim hk_ (fun hs_ => hs_) (fun hn_ => (Nat.le_trans (bsz sqB) hn_)))) (bsz sqB)); have n5_ := Sd.mk (bst sqB hb); clear HO530; clear HO533; clear HO536; clear HO539; clear HB; have HO530 := n0_; have HO533 := n1_; have HO536 := n2_; have HO539 := n3_; have HO542 := n4_; have HB := n5_; clear n0_ n1_ n2_ n3_ n4_ n5_; (try clear hb); (try clear hb2); (try clear hk); (try clear hi); (try clear ho0); obtain ⟨Ao18, co18, eo18⟩ := Kd.V_slice HO542.out; subst eo18) | ((with_reducible refine gcl (f := 52) rfl ?_); refine gL (some 25) rfl rfl Tryz.func52 (by kernel_rfl) rfl #[.slice Ao18 t540.length co18, .int .i64 (wrap64 (-t527))] rfl sqA ?_; (with_reducible refine (wn_up.calls k (fun k_ => (w.heap.size ≤ k_)) _ _ t540 (wrap64 (-t527)) t543 _ ?side1 A9.out).mono ?_); (case side1 => exact HO542.out); rintro e w19 ⟨v544, rfl, ho0, hb⟩; refine ⟨_, rfl, ?_⟩; have n0_ := Sd.mk (Kd.V_below (sqV HO530.out) hb); have n1_ := Sd.mk (Kd.V_below (sqV HO533.out) hb); have n2_ := Sd.mk (Kd.V_below (sqV HO536.out) hb); have n3_ := Sd.mk (Kd.V_below (sqV HO539.out) hb); have n4_ := Sd.mk (Kd.V_below (sqV HO542.out) hb); have n5_ := Sd.mk (Kd.V_lower (Kd.V_mono (ok' := fun k_ => (w.heap.size ≤ k_)) ho0 (fun k_ hk_ => Or.elim hk_ (fun hs_ => hs_) (fun hn_ => (Nat.le_trans (bsz sqB) hn_)))) (bsz sqB)); have n6_ := Sd.mk (bst sqB hb); clear HO530; clear HO533; clear HO536; clear HO539; clear HO542; clear HB; have HO530 := n0_; have HO533 := n1_; have HO536 := n2_; have HO539 := n3_; have HO542 := n4_; have HO545 := n5_; have HB := n6_; clear n0_ n1_ n2_ n3_ n4_ n5_ n6_; (try clear hb); (try clear hb2); (try clear hk); (try clear hi); (try clear ho0)))
 go_ret2
 exact ⟨_, _, sqE', sqV HO536.out, sqV HO545.out, sqB⟩
def w2_quotient.f (k : Nat) (a0 : Nat) (a1 : Int) : Option (Int × Int) := (w2_fraction.f k a0 a1).bind fun bt546 => ((wn_over.f k bt546.1 bt546.2).bind fun bt552 => ((w2_half.f k bt552.2 bt546.2).bind fun t556 => (some (bt552.1, t556))))
theorem w2_quotient.mono : ∀ a0 a1 k, LeO (w2_quotient.f k a0 a1) (w2_quotient.f (k + 1) a0 a1) := by
 intro a0 a1 k
 unfold w2_quotient.f
 repeat' first | (with_reducible first | apply w2_fraction.mono | apply w2_half.mono | apply wn_over.mono | apply LeO.refl | apply LeO.none | refine LeO.ite ?_ ?_ | refine LeO.bind ?_ (fun _ => ?_)) | apply LeO.none | refine LeO.ite ?_ ?_ | refine LeO.bind ?_ (fun _ => ?_)
theorem w2_quotient.calls (k : Nat) (a0 : Nat) (a1 : Int) (r1 : Int) (r2 : Int) (w : World) (h : w2_quotient.f k a0 a1 = some (r1, r2)) :
  Calls Tryz.prog 71 #[.float .f64 a0, .int .i64 a1] w fun e w' => e = .returned (.tuple #[.int .u64 r1, .int .i64 r2]) ∧ Below w.heap.size w w' := by
 have HB := Sd.mk (Below.refl w.heap.size w)
 have H : ((w2_fraction.f k a0 a1).bind fun bt546 => ((wn_over.f k bt546.1 bt546.2).bind fun bt552 => ((w2_half.f k bt552.2 bt546.2).bind fun t556 => (some (bt552.1, t556))))) = some (r1, r2) := h
 clear h
 obtain ⟨⟨t546, t549⟩, A3, H⟩ := sqO H
 try dsimp only at H
 obtain ⟨⟨t552, t553⟩, A4, H⟩ := sqO H
 try dsimp only at H
 obtain ⟨t556, A5, H⟩ := sqO H
 try dsimp only at H
 simp only [Option.some.injEq, Prod.mk.injEq] at H
 obtain ⟨rfl, rfl⟩ := H
 go_enter Tryz.func71, Tryz.ntmps71
 go_wp2_with (first | ((with_reducible refine gcl (f := 95) rfl ?_); refine gL (some 13) rfl rfl Tryz.func95 (by kernel_rfl) rfl #[.float .f64 a0, .int .i64 a1] rfl sqA ?_; (with_reducible refine (w2_fraction.calls k a0 a1 t546 t549 _ A3.out).mono ?_); rintro e w6 ⟨v547, v550, rfl, ho0, ho1, hb⟩; refine ⟨_, rfl, ?_⟩; have n0_ := Sd.mk (Kd.V_lower (Kd.V_mono (ok' := fun k_ => True) ho0 (fun k_ hk_ => trivial)) (bsz sqB)); have n1_ := Sd.mk (Kd.V_lower (Kd.V_mono (ok' := fun k_ => True) ho1 (fun k_ hk_ => trivial)) (bsz sqB)); have n2_ := Sd.mk (bst sqB hb); clear HB; have HO548 := n0_; have HO551 := n1_; have HB := n2_; clear n0_ n1_ n2_; (try clear hb); (try clear hb2); (try clear hk); (try clear hi); (try clear ho0); (try clear ho1); obtain ⟨Ao7, co7, eo7⟩ := Kd.V_slice HO548.out; subst eo7; obtain ⟨Ao8, co8, eo8⟩ := Kd.V_slice HO551.out; subst eo8) | ((with_reducible refine gcl (f := 54) rfl ?_); refine gL (some 19) rfl rfl Tryz.func54 (by kernel_rfl) rfl #[.slice Ao7 t546.length co7, .slice Ao8 t549.length co8] rfl sqA ?_; (with_reducible refine (wn_over.calls k (fun k_ => True) _ _ t546 (fun k_ => True) _ _ t549 t552 t553 _ ?side1 ?side2 A4.out).mono ?_); (case side1 => exact HO548.out); (case side2 => exact HO551.out); rintro e w9 ⟨v554, rfl, ho0, hb⟩; refine ⟨_, rfl, ?_⟩; have n0_ := Sd.mk (Kd.V_below (sqV HO548.out) hb); have n1_ := Sd.mk (Kd.V_below (sqV HO551.out) hb); have n2_ := Sd.mk (Kd.V_lower (Kd.V_mono (ok' := fun k_ => True) ho0 (fun k_ hk_ => trivial)) (bsz sqB)); have n3_ := Sd.mk (bst sqB hb); clear HO548; clear HO551; clear HB; have HO548 := n0_; have HO551 := n1_; have HO555 := n2_; have HB := n3_; clear n0_ n1_ n2_ n3_; (try clear hb); (try clear hb2); (try clear hk); (try clear hi); (try clear ho0); obtain ⟨Ao10, co10, eo10⟩ := Kd.V_slice HO555.out; subst eo10) | ((with_reducible refine gcl (f := 55) rfl ?_); refine gL (some 25) rfl rfl Tryz.func55 (by kernel_rfl) rfl #[.slice Ao10 t553.length co10, .slice Ao8 t549.length co8] rfl sqA ?_; (with_reducible refine (w2_half.calls k _ _ t553 _ _ t549 t556 _ ?side1 ?side2 ?side3 ?side4 A5.out).mono ?_); (case side1 => repeat (first | exact (Kd.V_reads' HO555.out).2.2 | (with_reducible refine Kd.C_alloc ?_ _) | (with_reducible refine Kd.C_drewN ?_ _) | (with_reducible refine Kd.C_drew ?_))); (case side2 => exact (Kd.V_reads' HO555.out).2.1); (case side3 => repeat (first | exact (Kd.V_reads' HO551.out).2.2 | (with_reducible refine Kd.C_alloc ?_ _) | (with_reducible refine Kd.C_drewN ?_ _) | (with_reducible refine Kd.C_drew ?_))); (case side4 => exact (Kd.V_reads' HO551.out).2.1); rintro e w11 ⟨rfl, hb⟩; refine ⟨_, rfl, ?_⟩; have n0_ := Sd.mk (Kd.V_below (sqV HO548.out) hb); have n1_ := Sd.mk (Kd.V_below (sqV HO551.out) hb); have n2_ := Sd.mk (Kd.V_below (sqV HO555.out) hb); have n3_ := Sd.mk (bst sqB hb); clear HO548; clear HO551; clear HO555; clear HB; have HO548 := n0_; have HO551 := n1_; have HO555 := n2_; have HB := n3_; clear n0_ n1_ n2_ n3_; (try clear hb); (try clear hb2); (try clear hk); (try clear hi)))
 go_ret2
 exact ⟨sqE', sqB⟩
def w2_scaled.f (k : Nat) (a0 : Nat) (a1 : Int) : Option (Int) := (w2_quotient.f k a0 a1).bind fun bt557 => (some bt557.1)
theorem w2_scaled.mono : ∀ a0 a1 k, LeO (w2_scaled.f k a0 a1) (w2_scaled.f (k + 1) a0 a1) := by
 intro a0 a1 k
 unfold w2_scaled.f
 repeat' first | (with_reducible first | apply w2_quotient.mono | apply LeO.refl | apply LeO.none | refine LeO.ite ?_ ?_ | refine LeO.bind ?_ (fun _ => ?_)) | apply LeO.none | refine LeO.ite ?_ ?_ | refine LeO.bind ?_ (fun _ => ?_)
theorem w2_scaled.calls (k : Nat) (a0 : Nat) (a1 : Int) (r : Int) (w : World) (h : w2_scaled.f k a0 a1 = some r) :
  Calls Tryz.prog 40 #[.float .f64 a0, .int .i64 a1] w fun e w' => e = .returned (.int .u64 r) ∧ Below w.heap.size w w' := by
 have HB := Sd.mk (Below.refl w.heap.size w)
 have H : ((w2_quotient.f k a0 a1).bind fun bt557 => (some bt557.1)) = some r := h
 clear h
 obtain ⟨⟨t557, t558⟩, A3, H⟩ := sqO H
 try dsimp only at H
 obtain rfl := Option.some.inj H
 go_enter Tryz.func40, Tryz.ntmps40
 go_wp2_with (first | ((with_reducible refine gcl (f := 71) rfl ?_); refine gL (some 10) rfl rfl Tryz.func71 (by kernel_rfl) rfl #[.float .f64 a0, .int .i64 a1] rfl sqA ?_; (with_reducible refine (w2_quotient.calls k a0 a1 t557 t558 _ A3.out).mono ?_); rintro e w4 ⟨rfl, hb⟩; refine ⟨_, rfl, ?_⟩; have n0_ := Sd.mk (bst sqB hb); clear HB; have HB := n0_; clear n0_; (try clear hb); (try clear hb2); (try clear hk); (try clear hi)))
 go_ret
 exact ⟨sqE', sqB⟩
-- NOT PRINTED: function 114 (strconv_small)
-- NOT PRINTED: function 121 (strconv_log10Pow2)
-- NOT PRINTED: function 122 (bits_Len64)
-- NOT PRINTED: function 123 (strconv_bool2_int)
-- NOT PRINTED: function 115 (strconv_numDigits)
-- NOT PRINTED: function 116 (strconv_formatBase10)
-- NOT PRINTED: function 124 (strconv_isPowerOfTwo)
-- NOT PRINTED: function 126 (bits_TrailingZeros32)
-- NOT PRINTED: function 127 (bits_TrailingZeros64)
-- NOT PRINTED: function 125 (bits_TrailingZeros)
-- NOT PRINTED: function 117 (strconv_formatBits)
-- NOT PRINTED: function 108 (strconv_FormatUint_108)
def strconv_FormatUint_96.f (a0 : Int) (a1 : Int) : Option ByteArray := if (0 ≤ a0 ∧ a0 < 9223372036854775808) ∧ a1 = 10 then some ⟨(Lib.itoa a0).toArray⟩ else none
theorem strconv_FormatUint_96.calls (a0 : Int) (a1 : Int) (r : ByteArray) (w : World) (htab : Sd (Rm.Tab w)) (h : strconv_FormatUint_96.f a0 a1 = some r) :
  Calls Tryz.prog 96 #[.int .u64 a0, .int .i64 a1] w fun e w' => e = .returned (.string r) ∧ Below w.heap.size w w' := by
 unfold strconv_FormatUint_96.f at h
 split at h
 ·rename_i hc
  obtain rfl := Option.some.inj h
  exact hc.2 ▸ Rm.formatUint_calls a0 hc.1.1 hc.1.2 w htab.out
 exact absurd h (by simp)

-- NOT PRINTED: function 118 (strconv_FormatInt)
-- NOT PRINTED: function 109 (strconv_Itoa_109)
def strconv_Itoa_97.f (a0 : Int) : Option ByteArray := if -9223372036854775808 ≤ a0 ∧ a0 ≤ 9223372036854775807 then some ⟨(Lib.itoa a0).toArray⟩ else none
theorem strconv_Itoa_97.calls (a0 : Int) (r : ByteArray) (w : World) (htab : Sd (Rm.Tab w)) (h : strconv_Itoa_97.f a0 = some r) :
  Calls Tryz.prog 97 #[.int .i64 a0] w fun e w' => e = .returned (.string r) ∧ Below w.heap.size w w' := by
 unfold strconv_Itoa_97.f at h
 split at h
 ·rename_i hc
  obtain rfl := Option.some.inj h
  exact Rm.itoa_calls a0 hc.1 hc.2 w htab.out
 exact absurd h (by simp)

def w2_written.l0 : Nat → Int → Int → Option (ByteArray)
 | 0, _, _ => none
 | k + 1, x0, x1 => if (Int.tmod x0 10) = 0 then (w2_written.l0 k (IntKind.u64.wrap (Int.tdiv x0 10)) (wrap64 (x1 + 1))) else ((strconv_FormatUint_96.f x0 10).bind fun t565 => (if x1 = 0 then (some t565) else (if t565.size + 1 ≤ 9223372036854775807 then ((strconv_Itoa_97.f x1).bind fun t566 => (if (t565 ++ (⟨#[101]⟩ : ByteArray)).size + t566.size ≤ 9223372036854775807 then (some ((t565 ++ (⟨#[101]⟩ : ByteArray)) ++ t566)) else (none))) else (none))))
def w2_written.f (k : Nat) (a0 : Int) (a1 : Int) : Option (ByteArray) := w2_written.l0 k a0 a1
theorem w2_written.mono_l : ∀ k, (∀ y0 y1, LeO (w2_written.l0 k y0 y1) (w2_written.l0 (k + 1) y0 y1))
 | 0 => fun _ _ r h => by simp [w2_written.l0] at h
 | k + 1 => by
  have ih0 := w2_written.mono_l k
  intro y0 y1
  unfold w2_written.l0
  repeat' first | (with_reducible first | apply ih0 | apply LeO.refl | apply LeO.none | refine LeO.ite ?_ ?_ | refine LeO.bind ?_ (fun _ => ?_)) | apply LeO.none | refine LeO.ite ?_ ?_ | refine LeO.bind ?_ (fun _ => ?_)
theorem w2_written.mono : ∀ a0 a1 k, LeO (w2_written.f k a0 a1) (w2_written.f (k + 1) a0 a1) := by
 intro a0 a1 k
 have ih0 := w2_written.mono_l k
 unfold w2_written.f
 repeat' first | (with_reducible first | apply ih0 | apply LeO.refl | apply LeO.none | refine LeO.ite ?_ ?_ | refine LeO.bind ?_ (fun _ => ?_)) | apply LeO.none | refine LeO.ite ?_ ?_ | refine LeO.bind ?_ (fun _ => ?_)
theorem w2_written.calls (k : Nat) (a0 : Int) (a1 : Int) (r : ByteArray) (w : World) (htab : Sd (Rm.Tab w)) (h : w2_written.f k a0 a1 = some r) :
  Calls Tryz.prog 72 #[.int .u64 a0, .int .i64 a1] w fun e w' => e = .returned (.string r) ∧ Below w.heap.size w w' := by
 have HB := Sd.mk (Below.refl w.heap.size w)
 have H : (w2_written.l0 k a0 a1) = some r := h
 clear h
 have H' := Sd.mk H
 clear H
 go_enter Tryz.func72, Tryz.ntmps72
 go_wp2
 go_loopg [0, 1] k (fun kq v0 v1 w' => ∃ (x0_1 : Int) (x1_1 : Int), v0 = .int .u64 x0_1 ∧ v1 = .int .i64 x1_1 ∧ Sd (w2_written.l0 kq x0_1 x1_1 = some r) ∧ Sd (kq ≤ k) ∧ Sd (Below w.heap.size w w'))
 case atStart => exact ⟨(a0), (a1), sqE, sqE, H', ⟨Nat.le_refl _⟩, ⟨sqB⟩⟩
 case round =>
  clear H'
  try clear p2
  obtain ⟨x0_1, x1_1, rfl, rfl, HA, HK1, HB⟩ := hrel
  cases gk with
  | zero => exact absurd HA.out (by simp [w2_written.l0])
  | succ k1 =>
   have H := HA.out
   clear HA
   simp only [w2_written.l0] at H
   by_cases c3 : (Int.tmod x0_1 10) = 0
   ·rw [if_pos c3] at H
    have c3b0 := beq_iff_eq.mpr c3
    have c3b1 := bne_eq_false_iff_eq.mpr c3
    clear c3
    have H' := Sd.mk H
    clear H
    go_wp2
    go_roundg k1
    case measure => have := HK1.out; omega
    case rel => exact ⟨(IntKind.u64.wrap (Int.tdiv x0_1 10)), (wrap64 (x1_1 + 1)), sqE, sqE, H', ⟨by have := HK1.out; omega⟩, ⟨sqB⟩⟩
   rw [if_neg c3] at H
   have c3b0 := beq_eq_false_iff_ne.mpr c3
   have c3b1 := bne_iff_ne.mpr c3
   obtain ⟨t565, A4, H⟩ := sqO H
   try dsimp only at H
   by_cases c5 : x1_1 = 0
   ·rw [if_pos c5] at H
    have c5b0 := beq_iff_eq.mpr c5
    have c5b1 := bne_eq_false_iff_eq.mpr c5
    clear c5
    obtain rfl := Option.some.inj H
    go_wp2_with (first | ((with_reducible refine gcl (f := 96) rfl ?_); refine gL (some 14) rfl rfl Tryz.func96 (by kernel_rfl) rfl #[.int .u64 x0_1, .int .i64 10] rfl sqA ?_; (with_reducible refine (strconv_FormatUint_96.calls x0_1 10 t565 _ ⟨htab.out.below sqB⟩ A4.out).mono ?_); rintro e w6 ⟨rfl, hb⟩; refine ⟨_, rfl, ?_⟩; have n0_ := Sd.mk (bst sqB hb); clear HB; have HB := n0_; clear n0_; (try clear hb); (try clear hb2); (try clear hk); (try clear hi)))
    go_ret
    exact ⟨sqE', sqB⟩
   rw [if_neg c5] at H
   have c5b0 := beq_eq_false_iff_ne.mpr c5
   have c5b1 := bne_iff_ne.mpr c5
   by_cases c7 : t565.size + 1 ≤ 9223372036854775807
   case neg => rw [if_neg c7] at H; exact absurd H (by simp)
   rw [if_pos c7] at H
   have c7b0 := eq_true c7
   have c7b1 := decide_eq_true c7
   try have c7b2 : (9223372036854775807 < t565.size + 1) = False := eq_false (Nat.not_lt.2 c7)
   obtain ⟨t566, A8, H⟩ := sqO H
   try dsimp only at H
   by_cases c9 : (t565 ++ (⟨#[101]⟩ : ByteArray)).size + t566.size ≤ 9223372036854775807
   case neg => rw [if_neg c9] at H; exact absurd H (by simp)
   rw [if_pos c9] at H
   have c9b0 := eq_true c9
   have c9b1 := decide_eq_true c9
   try have c9b2 : (9223372036854775807 < (t565 ++ (⟨#[101]⟩ : ByteArray)).size + t566.size) = False := eq_false (Nat.not_lt.2 c9)
   have c9b3 : (9223372036854775807 < t565.size + 1 + t566.size) = False := eq_false (by have h_ := c9; have e_ : (⟨#[101]⟩ : ByteArray).size = 1 := rfl; rw [ByteArray.size_append] at h_; omega)
   obtain rfl := Option.some.inj H
   go_wp2_with (first | ((with_reducible refine gcl (f := 96) rfl ?_); refine gL (some 14) rfl rfl Tryz.func96 (by kernel_rfl) rfl #[.int .u64 x0_1, .int .i64 10] rfl sqA ?_; (with_reducible refine (strconv_FormatUint_96.calls x0_1 10 t565 _ ⟨htab.out.below sqB⟩ A4.out).mono ?_); rintro e w10 ⟨rfl, hb⟩; refine ⟨_, rfl, ?_⟩; have n0_ := Sd.mk (bst sqB hb); clear HB; have HB := n0_; clear n0_; (try clear hb); (try clear hb2); (try clear hk); (try clear hi)) | ((with_reducible refine gcl (f := 97) rfl ?_); refine gL (some 21) rfl rfl Tryz.func97 (by kernel_rfl) rfl #[.int .i64 x1_1] rfl sqA ?_; (with_reducible refine (strconv_Itoa_97.calls x1_1 t566 _ ⟨htab.out.below sqB⟩ A8.out).mono ?_); rintro e w11 ⟨rfl, hb⟩; refine ⟨_, rfl, ?_⟩; have n0_ := Sd.mk (bst sqB hb); clear HB; have HB := n0_; clear n0_; (try clear hb); (try clear hb2); (try clear hk); (try clear hi)))
   go_ret
   exact ⟨sqE', sqB⟩
mutual
def w2_nearest.j0 : Nat → Nat → Int → Int → List Int → Bool → Option (ByteArray × Bool)
 | 0, _, _, _, _, _ => none
 | k + 1, x0, x1, x6, x8, x34 => if x34 = true then (w2_nearest.j1 k x0 x1 (([IntKind.u64.wrap (x6 + 1), x6] : List Int))) else (w2_nearest.j1 k x0 x1 x8)
def w2_nearest.j1 : Nat → Nat → Int → List Int → Option (ByteArray × Bool)
 | 0, _, _, _ => none
 | k + 1, x0, x1, x8 => w2_nearest.l0 k x0 x1 x8 (x8.length : Int) 0
def w2_nearest.l0 : Nat → Nat → Int → List Int → Int → Int → Option (ByteArray × Bool)
 | 0, _, _, _, _, _ => none
 | k + 1, x0, x1, x39, x40, x41 => if x41 < x40 then (if 0 ≤ x41 then (if x41 < (x39.length : Int) then (if (rd x39 x41) = 0 then (w2_nearest.l0 k x0 x1 x39 x40 (wrap64 (x41 + 1))) else ((w2_written.f k (rd x39 x41) x1).bind fun t576 => ((w2_Parse.f k t576).bind fun bt577 => (if bt577.2 = 0 then (if (FloatKind.f64.format.order bt577.1 x0 == some .eq) = true then (some (t576, true)) else (w2_nearest.l0 k x0 x1 x39 x40 (wrap64 (x41 + 1)))) else (w2_nearest.l0 k x0 x1 x39 x40 (wrap64 (x41 + 1))))))) else (none)) else (none)) else (some ((⟨#[]⟩ : ByteArray), false))
end
def w2_nearest.f (k : Nat) (a0 : Nat) (a1 : Int) : Option (ByteArray × Bool) := (w2_quotient.f k a0 a1).bind fun bt567 => ((some (([bt567.1, IntKind.u64.wrap (bt567.1 + 1)] : List Int) : List Int)).bind fun y569 => (if bt567.2 > 0 then (w2_nearest.j0 k a0 a1 bt567.1 y569 true) else (if bt567.2 = 0 then (w2_nearest.j0 k a0 a1 bt567.1 y569 ((Int.tmod bt567.1 2) == 1)) else (w2_nearest.j0 k a0 a1 bt567.1 y569 false))))
theorem w2_nearest.mono_l : ∀ k, (∀ y0 y1 y2 y3 y4, LeO (w2_nearest.j0 k y0 y1 y2 y3 y4) (w2_nearest.j0 (k + 1) y0 y1 y2 y3 y4)) ∧ (∀ y0 y1 y2, LeO (w2_nearest.j1 k y0 y1 y2) (w2_nearest.j1 (k + 1) y0 y1 y2)) ∧ (∀ y0 y1 y2 y3 y4, LeO (w2_nearest.l0 k y0 y1 y2 y3 y4) (w2_nearest.l0 (k + 1) y0 y1 y2 y3 y4))
 | 0 => ⟨fun _ _ _ _ _ r h => by simp [w2_nearest.j0] at h, fun _ _ _ r h => by simp [w2_nearest.j1] at h, fun _ _ _ _ _ r h => by simp [w2_nearest.l0] at h⟩
 | k + 1 => by
  obtain ⟨ih0, ih1, ih2⟩ := w2_nearest.mono_l k
  refine ⟨?_, ?_, ?_⟩
  ·intro y0 y1 y2 y3 y4
   unfold w2_nearest.j0
   repeat' first | (with_reducible first | apply ih0 | apply ih1 | apply ih2 | apply w2_Parse.mono | apply w2_quotient.mono | apply w2_written.mono | apply LeO.refl | apply LeO.none | refine LeO.ite ?_ ?_ | refine LeO.bind ?_ (fun _ => ?_)) | apply LeO.none | refine LeO.ite ?_ ?_ | refine LeO.bind ?_ (fun _ => ?_)
  ·intro y0 y1 y2
   unfold w2_nearest.j1
   repeat' first | (with_reducible first | apply ih0 | apply ih1 | apply ih2 | apply w2_Parse.mono | apply w2_quotient.mono | apply w2_written.mono | apply LeO.refl | apply LeO.none | refine LeO.ite ?_ ?_ | refine LeO.bind ?_ (fun _ => ?_)) | apply LeO.none | refine LeO.ite ?_ ?_ | refine LeO.bind ?_ (fun _ => ?_)
  intro y0 y1 y2 y3 y4
  unfold w2_nearest.l0
  repeat' first | (with_reducible first | apply ih0 | apply ih1 | apply ih2 | apply w2_Parse.mono | apply w2_quotient.mono | apply w2_written.mono | apply LeO.refl | apply LeO.none | refine LeO.ite ?_ ?_ | refine LeO.bind ?_ (fun _ => ?_)) | apply LeO.none | refine LeO.ite ?_ ?_ | refine LeO.bind ?_ (fun _ => ?_)
theorem w2_nearest.mono : ∀ a0 a1 k, LeO (w2_nearest.f k a0 a1) (w2_nearest.f (k + 1) a0 a1) := by
 intro a0 a1 k
 obtain ⟨ih0, ih1, ih2⟩ := w2_nearest.mono_l k
 unfold w2_nearest.f
 repeat' first | (with_reducible first | apply ih0 | apply ih1 | apply ih2 | apply w2_Parse.mono | apply w2_quotient.mono | apply w2_written.mono | apply LeO.refl | apply LeO.none | refine LeO.ite ?_ ?_ | refine LeO.bind ?_ (fun _ => ?_)) | apply LeO.none | refine LeO.ite ?_ ?_ | refine LeO.bind ?_ (fun _ => ?_)
theorem w2_nearest.calls (k : Nat) (a0 : Nat) (a1 : Int) (r1 : ByteArray) (r2 : Bool) (w : World) (htab : Sd (Rm.Tab w)) (h : w2_nearest.f k a0 a1 = some (r1, r2)) :
  Calls Tryz.prog 41 #[.float .f64 a0, .int .i64 a1] w fun e w' => e = .returned (.tuple #[.string r1, .bool r2]) ∧ Below w.heap.size w w' := by
 have HB := Sd.mk (Below.refl w.heap.size w)
 have H : ((w2_quotient.f k a0 a1).bind fun bt567 => ((some (([bt567.1, IntKind.u64.wrap (bt567.1 + 1)] : List Int) : List Int)).bind fun y569 => (if bt567.2 > 0 then (w2_nearest.j0 k a0 a1 bt567.1 y569 true) else (if bt567.2 = 0 then (w2_nearest.j0 k a0 a1 bt567.1 y569 ((Int.tmod bt567.1 2) == 1)) else (w2_nearest.j0 k a0 a1 bt567.1 y569 false))))) = some (r1, r2) := h
 clear h
 obtain ⟨⟨t567, t568⟩, A3, H⟩ := sqO H
 try dsimp only at H
 obtain ⟨y569, hy569⟩ : ∃ y_ : List Int, y_ = (([t567, IntKind.u64.wrap (t567 + 1)] : List Int)) := ⟨_, rfl⟩
 replace H : (if t568 > 0 then (w2_nearest.j0 k a0 a1 t567 y569 true) else (if t568 = 0 then (w2_nearest.j0 k a0 a1 t567 y569 ((Int.tmod t567 2) == 1)) else (w2_nearest.j0 k a0 a1 t567 y569 false))) = some (r1, r2) := by first | (rw [hy569]; with_reducible exact H) | (have H2_ := (Option.bind_some _ _).symm.trans H; rw [hy569]; with_reducible exact H2_) | (have H2_ := (Option.bind_some _ _).symm.trans H; with_reducible exact H2_) | with_reducible exact H | (rw [hy569]; exact H) | exact H
 have Ny569 := Sd.mk hy569
 clear hy569
 have HC4 := Sd.mk H
 clear H
 go_enter Tryz.func41, Tryz.ntmps41
 go_upto_region 3 with (first | ((with_reducible refine gcl (f := 71) rfl ?_); refine gL (some 17) rfl rfl Tryz.func71 (by kernel_rfl) rfl #[.float .f64 a0, .int .i64 a1] rfl sqA ?_; (with_reducible refine (w2_quotient.calls k a0 a1 t567 t568 _ A3.out).mono ?_); rintro e w5 ⟨rfl, hb⟩; refine ⟨_, rfl, ?_⟩; have n0_ := Sd.mk (bst sqB hb); clear HB; have HB := n0_; clear n0_; (try clear hb); (try clear hb2); (try clear hk); (try clear hi)) | ((with_reducible refine gds (N := 23) rfl ?_); refine Kd.R_lit (Kd.int .u64) _ 26 ?hg (N := 23) ?hd (xs := ([t567, IntKind.u64.wrap (t567 + 1)] : List Int)) (inner := [.int .u64 t567, .int .u64 (IntKind.u64.wrap (t567 + 1))]) (ok := fun _ => True) (okp := fun _ => True) ?hr ?hp (fun _ hk => hk) trivial (Below.refl _ _) (Nat.le_refl _) (by simp) ?_; (case hd => rfl); (case hg => rfl); (case hr => first | (go_simp; done) | (go_simp; rfl)); (case hp => exact (Reps.one (show Kd.M (Kd.int .u64) _ _ _ t567 [.int .u64 t567] from rfl) (Reps.one (show Kd.M (Kd.int .u64) _ _ _ (IntKind.u64.wrap (t567 + 1)) [.int .u64 (IntKind.u64.wrap (t567 + 1))] from rfl) (Reps.none _ _)))); intro v570 w6 ho7 hb hg_ hnew_; clear hg_ hnew_; (first | rw [← Ny569.out] at ho7 | (simp only [Int.reduceToNat] at ho7; rw [← Ny569.out] at ho7)); have n0_ := Sd.mk (Kd.R_lower ho7 (bsz sqB)); have n1_ := Sd.mk (bst sqB hb); clear HB; have HO571 := n0_; have HB := n1_; clear n0_ n1_; clear hb ho7))
 (try simp only [Act.put, List.setIfInBounds_toArray, List.set_cons_zero, List.set_cons_succ])
 go_cut [34] (fun v34 wc => ∃ (kq : Nat) (x34_3 : Bool), v34 = .bool x34_3 ∧ Sd (w2_nearest.j0 kq a0 a1 t567 y569 x34_3 = some (r1, r2)) ∧ Sd (kq ≤ k) ∧ Sd (Kd.R (Kd.int .u64) 26 wc w.heap.size (fun _ => True) v570 y569) ∧ Sd (Below w.heap.size w wc))
 case first =>
  have H := HC4.out
  clear HC4
  by_cases c8 : t568 > 0
  ·rw [if_pos c8] at H
   have c8b0 := decide_eq_true c8
   clear c8
   (first | rw [c8b0] | (simp only [i64_w, i32_w]; rw [c8b0]) | skip)
   have H' := Sd.mk H
   clear H
   go_wp2
   go_meet
   case rel => exact ⟨_, (true), sqE, H', ⟨by first | omega | exact Nat.le_refl _⟩, ⟨sqR HO571.out⟩, ⟨sqB⟩⟩
  rw [if_neg c8] at H
  have c8b0 := decide_eq_false c8
  clear c8
  (first | rw [c8b0] | (simp only [i64_w, i32_w]; rw [c8b0]) | skip)
  by_cases c9 : t568 = 0
  ·rw [if_pos c9] at H
   have c9b0 := beq_iff_eq.mpr c9
   have c9b1 := bne_eq_false_iff_eq.mpr c9
   clear c9
   have H' := Sd.mk H
   clear H
   go_wp2
   go_meet
   case rel => exact ⟨_, (((Int.tmod t567 2) == 1)), sqE, H', ⟨by first | omega | exact Nat.le_refl _⟩, ⟨sqR HO571.out⟩, ⟨sqB⟩⟩
  rw [if_neg c9] at H
  have c9b0 := beq_eq_false_iff_ne.mpr c9
  have c9b1 := bne_iff_ne.mpr c9
  have H' := Sd.mk H
  clear H
  go_wp2
  go_meet
  case rel => exact ⟨_, (false), sqE, H', ⟨by first | omega | exact Nat.le_refl _⟩, ⟨sqR HO571.out⟩, ⟨sqB⟩⟩
 case rest =>
  clear HC4
  try clear p2
  try clear c4
  try clear c7
  try clear c8
  try clear c8b0
  try clear c9
  try clear c9b0
  try clear c9b1
  obtain ⟨kq, x34_3, rfl, HA, HJ3, HO_8, HB⟩ := hcut
  cases kq with
  | zero => exact absurd HA.out (by simp [w2_nearest.j0])
  | succ kj3 =>
   have H := HA.out
   clear HA
   simp only [w2_nearest.j0] at H
   have HC10 := Sd.mk H
   clear H
   go_upto_if 34 with (fail)
   go_cut [8] (fun v8 wc => ∃ (kq : Nat) (x8_9 : List Int), Sd (w2_nearest.j1 kq a0 a1 x8_9 = some (r1, r2)) ∧ Sd (kq ≤ kj3) ∧ Sd (Kd.R (Kd.int .u64) 26 wc w.heap.size (fun _ => True) v8 x8_9) ∧ Sd (Below w.heap.size w wc))
   case first =>
    have H := HC10.out
    clear HC10
    by_cases c11 : x34_3 = true
    case neg =>
     replace c11 := Bool.eq_false_iff.mpr c11
     subst c11
     have H1 : (w2_nearest.j1 kj3 a0 a1 y569) = some (r1, r2) := by rw [if_neg (show ¬ (false = true) by decide)] at H; exact H
     clear H
     have H := H1
     clear H1
     have H' := Sd.mk H
     clear H
     go_wp2
     go_meet
     case rel => exact ⟨_, (y569), H', ⟨by have := HJ3.out; first | omega | exact Nat.le_refl _⟩, ⟨sqR HO_8.out⟩, ⟨sqB⟩⟩
    subst c11
    have H1 : (w2_nearest.j1 kj3 a0 a1 (([IntKind.u64.wrap (t567 + 1), t567] : List Int))) = some (r1, r2) := by rw [if_pos rfl] at H; exact H
    clear H
    have H := H1
    clear H1
    obtain ⟨y572, hy572⟩ : ∃ y_ : List Int, y_ = (([IntKind.u64.wrap (t567 + 1), t567] : List Int)) := ⟨_, rfl⟩
    replace H : (w2_nearest.j1 kj3 a0 a1 y572) = some (r1, r2) := by first | (rw [hy572]; with_reducible exact H) | (have H2_ := (Option.bind_some _ _).symm.trans H; rw [hy572]; with_reducible exact H2_) | (have H2_ := (Option.bind_some _ _).symm.trans H; with_reducible exact H2_) | with_reducible exact H | (rw [hy572]; exact H) | exact H
    have Ny572 := Sd.mk hy572
    clear hy572
    have H' := Sd.mk H
    clear H
    go_wp2_with (first | ((with_reducible refine gds (N := 38) rfl ?_); refine Kd.R_lit (Kd.int .u64) _ 26 ?hg (N := 38) ?hd (xs := ([IntKind.u64.wrap (t567 + 1), t567] : List Int)) (inner := [.int .u64 (IntKind.u64.wrap (t567 + 1)), .int .u64 t567]) (ok := fun _ => True) (okp := fun _ => True) ?hr ?hp (fun _ hk => hk) trivial (Below.refl _ _) (Nat.le_refl _) (by simp) ?_; (case hd => rfl); (case hg => rfl); (case hr => first | (go_simp; done) | (go_simp; rfl)); (case hp => exact (Reps.one (show Kd.M (Kd.int .u64) _ _ _ (IntKind.u64.wrap (t567 + 1)) [.int .u64 (IntKind.u64.wrap (t567 + 1))] from rfl) (Reps.one (show Kd.M (Kd.int .u64) _ _ _ t567 [.int .u64 t567] from rfl) (Reps.none _ _)))); intro v573 w12 ho13 hb hg_ hnew_; clear hg_ hnew_; (first | rw [← Ny572.out] at ho13 | (simp only [Int.reduceToNat] at ho13; rw [← Ny572.out] at ho13)); have n0_ := Sd.mk (Kd.R_elder' (sqR HO_8.out) (Kd.R_base ho13) hb); have n1_ := Sd.mk (Kd.R_lower (Kd.R_new' ho13 (Kd.R_lt (sqR HO_8.out))) (bsz sqB)); have n2_ := Sd.mk (bst sqB hb); clear HO_8; clear HB; have HO_8 := n0_; have HO574 := n1_; have HB := n2_; clear n0_ n1_ n2_; clear hb ho13))
    go_meet
    case rel => exact ⟨_, (y572), H', ⟨by have := HJ3.out; first | omega | exact Nat.le_refl _⟩, ⟨by (with_reducible repeat (first | apply Kd.R_alloc | apply Kd.R_drewN | apply Kd.R_drew)); exact Kd.R_mono HO574.out (fun _ hk => trivial)⟩, ⟨sqB⟩⟩
   case rest =>
    clear HC10
    try clear c1
    try clear p2
    try clear c4
    try clear c7
    try clear c8
    try clear c8b0
    try clear c9
    try clear c9b0
    try clear c9b1
    try clear c11
    try clear p2
    obtain ⟨kq, x8_9, HA, HJ9, HO_8, HB⟩ := hcut
    cases kq with
    | zero => exact absurd HA.out (by simp [w2_nearest.j1])
    | succ kj9 =>
     have H := HA.out
     clear HA
     simp only [w2_nearest.j1] at H
     have H' := Sd.mk H
     clear H
     obtain ⟨Ao14, co14, eo14⟩ := Kd.R_slice HO_8.out
     subst eo14
     go_wp2
     go_loopg [41] kj9 (fun kq v41 w' => ∃ (x41_3 : Int), v41 = .int .i64 x41_3 ∧ Sd (w2_nearest.l0 kq a0 a1 x8_9 (x8_9.length : Int) x41_3 = some (r1, r2)) ∧ Sd (kq ≤ kj9) ∧ Sd (Kd.R (Kd.int .u64) 26 w' w.heap.size (fun _ => True) (.slice Ao14 x8_9.length co14) x8_9) ∧ Sd (Below w.heap.size w w'))
     case atStart => exact ⟨(0), sqE, H', ⟨Nat.le_refl _⟩, ⟨sqR HO_8.out⟩, ⟨sqB⟩⟩
     case round =>
      clear H'
      try clear c1
      try clear p2
      try clear c4
      try clear c7
      try clear c8
      try clear c8b0
      try clear c9
      try clear c9b0
      try clear c9b1
      try clear c11
      try clear p2
      obtain ⟨x41_3, rfl, HA, HK3, HO_39, HB⟩ := hrel
      cases gk with
      | zero => exact absurd HA.out (by simp [w2_nearest.l0])
      | succ k3 =>
       have H := HA.out
       clear HA
       simp only [w2_nearest.l0] at H
       by_cases c15 : x41_3 < (x8_9.length : Int)
       case neg =>
        rw [if_neg c15] at H
        have c15b0 := decide_eq_false c15
        clear c15
        simp only [Option.some.injEq, Prod.mk.injEq] at H
        obtain ⟨rfl, rfl⟩ := H
        go_wp2
        go_ret2
        exact ⟨sqE', sqB⟩
       rw [if_pos c15] at H
       have c15b0 := decide_eq_true c15
       clear c15
       by_cases c16 : 0 ≤ x41_3
       case neg => rw [if_neg c16] at H; exact absurd H (by simp)
       rw [if_pos c16] at H
       have c16b0 := decide_eq_true c16
       clear c16
       by_cases c17 : x41_3 < (x8_9.length : Int)
       case neg => rw [if_neg c17] at H; exact absurd H (by simp)
       rw [if_pos c17] at H
       have c17b0 := decide_eq_true c17
       clear c17
       by_cases c18 : (rd x8_9 x41_3) = 0
       ·rw [if_pos c18] at H
        have c18b0 := beq_iff_eq.mpr c18
        have c18b1 := bne_eq_false_iff_eq.mpr c18
        clear c18
        have H' := Sd.mk H
        clear H
        have p575 : 0 ≤ (x41_3 : Int) := sqD
        have q575 : x41_3 < (x8_9.length : Int) := sqD
        obtain ⟨ad575, e575, hx575_0⟩ := Kd.at_int (Kd.R_reads' HO_39.out).2.2 x41_3 p575 q575
        cases e575
        replace p575 := eq_true p575
        replace q575 := eq_true q575
        go_wp2
        go_roundg k3
        case measure => have := HJ3.out; have := HJ9.out; have := HK3.out; omega
        case rel => exact ⟨(wrap64 (x41_3 + 1)), sqE, H', ⟨by have := HJ3.out; have := HJ9.out; have := HK3.out; omega⟩, ⟨sqR HO_39.out⟩, ⟨sqB⟩⟩
       rw [if_neg c18] at H
       have c18b0 := beq_eq_false_iff_ne.mpr c18
       have c18b1 := bne_iff_ne.mpr c18
       obtain ⟨t576, A19, H⟩ := sqO H
       try dsimp only at H
       obtain ⟨⟨t577, t578⟩, A20, H⟩ := sqO H
       try dsimp only at H
       by_cases c21 : t578 = 0
       case neg =>
        rw [if_neg c21] at H
        have c21b0 := beq_eq_false_iff_ne.mpr c21
        have c21b1 := bne_iff_ne.mpr c21
        have H' := Sd.mk H
        clear H
        have p575 : 0 ≤ (x41_3 : Int) := sqD
        have q575 : x41_3 < (x8_9.length : Int) := sqD
        obtain ⟨ad575, e575, hx575_0⟩ := Kd.at_int (Kd.R_reads' HO_39.out).2.2 x41_3 p575 q575
        cases e575
        replace p575 := eq_true p575
        replace q575 := eq_true q575
        go_wp2_with (first | ((with_reducible refine gcl (f := 72) rfl ?_); refine gL (some 49) rfl rfl Tryz.func72 (by kernel_rfl) rfl #[.int .u64 (rd x8_9 x41_3), .int .i64 a1] rfl sqA ?_; (with_reducible refine (w2_written.calls k3 (rd x8_9 x41_3) a1 t576 _ ⟨htab.out.below sqB⟩ A19.out).mono ?_); rintro e w27 ⟨rfl, hb⟩; refine ⟨_, rfl, ?_⟩; have n0_ := Sd.mk (Kd.R_below (sqR HO_39.out) hb); have n1_ := Sd.mk (bst sqB hb); clear HO_39; clear HB; have HO_39 := n0_; have HB := n1_; clear n0_ n1_; (try clear hb); (try clear hb2); (try clear hk); (try clear hi)) | ((with_reducible refine gcl (f := 7) rfl ?_); refine gL (some 52) rfl rfl Tryz.func7 (by kernel_rfl) rfl #[.string t576] rfl sqA ?_; (with_reducible refine (w2_Parse.calls k3 t576 t577 t578 _ A20.out).mono ?_); rintro e w28 ⟨rfl, hb⟩; refine ⟨_, rfl, ?_⟩; have n0_ := Sd.mk (Kd.R_below (sqR HO_39.out) hb); have n1_ := Sd.mk (bst sqB hb); clear HO_39; clear HB; have HO_39 := n0_; have HB := n1_; clear n0_ n1_; (try clear hb); (try clear hb2); (try clear hk); (try clear hi)))
        go_roundg k3
        case measure => have := HJ3.out; have := HJ9.out; have := HK3.out; omega
        case rel => exact ⟨(wrap64 (x41_3 + 1)), sqE, H', ⟨by have := HJ3.out; have := HJ9.out; have := HK3.out; omega⟩, ⟨sqR HO_39.out⟩, ⟨sqB⟩⟩
       rw [if_pos c21] at H
       have c21b0 := beq_iff_eq.mpr c21
       have c21b1 := bne_eq_false_iff_eq.mpr c21
       clear c21
       by_cases c22 : (FloatKind.f64.format.order t577 a0 == some .eq) = true
       ·rw [if_pos c22] at H
        have c22b0 : (FloatKind.f64.format.order t577 a0 == some .eq) = true := c22
        (try (have c22b1 : decide (FloatKind.f64.format.order t577 a0 = some .eq) = true := by simpa using c22))
        (try (have c22b2 : (FloatKind.f64.format.order t577 a0 == some .eq) = true := by simpa using c22))
        clear c22
        simp only [Option.some.injEq, Prod.mk.injEq] at H
        obtain ⟨rfl, rfl⟩ := H
        have p575 : 0 ≤ (x41_3 : Int) := sqD
        have q575 : x41_3 < (x8_9.length : Int) := sqD
        obtain ⟨ad575, e575, hx575_0⟩ := Kd.at_int (Kd.R_reads' HO_39.out).2.2 x41_3 p575 q575
        cases e575
        replace p575 := eq_true p575
        replace q575 := eq_true q575
        go_wp2_with (first | ((with_reducible refine gcl (f := 72) rfl ?_); refine gL (some 49) rfl rfl Tryz.func72 (by kernel_rfl) rfl #[.int .u64 (rd x8_9 x41_3), .int .i64 a1] rfl sqA ?_; (with_reducible refine (w2_written.calls k3 (rd x8_9 x41_3) a1 t576 _ ⟨htab.out.below sqB⟩ A19.out).mono ?_); rintro e w23 ⟨rfl, hb⟩; refine ⟨_, rfl, ?_⟩; have n0_ := Sd.mk (Kd.R_below (sqR HO_39.out) hb); have n1_ := Sd.mk (bst sqB hb); clear HO_39; clear HB; have HO_39 := n0_; have HB := n1_; clear n0_ n1_; (try clear hb); (try clear hb2); (try clear hk); (try clear hi)) | ((with_reducible refine gcl (f := 7) rfl ?_); refine gL (some 52) rfl rfl Tryz.func7 (by kernel_rfl) rfl #[.string t576] rfl sqA ?_; (with_reducible refine (w2_Parse.calls k3 t576 t577 t578 _ A20.out).mono ?_); rintro e w24 ⟨rfl, hb⟩; refine ⟨_, rfl, ?_⟩; have n0_ := Sd.mk (Kd.R_below (sqR HO_39.out) hb); have n1_ := Sd.mk (bst sqB hb); clear HO_39; clear HB; have HO_39 := n0_; have HB := n1_; clear n0_ n1_; (try clear hb); (try clear hb2); (try clear hk); (try clear hi)))
        go_ret2
        exact ⟨sqE', sqB⟩
       rw [if_neg c22] at H
       have c22b0 : (FloatKind.f64.format.order t577 a0 == some .eq) = false := by simpa using c22
       (try (have c22b1 : decide (FloatKind.f64.format.order t577 a0 = some .eq) = false := by simpa using c22))
       (try (have c22b2 : (FloatKind.f64.format.order t577 a0 == some .eq) = false := by simpa using c22))
       (try (have c22b3 : ¬ (FloatKind.f64.format.order t577 a0 = some .eq) := by simpa using c22))
       clear c22
       have H' := Sd.mk H
       clear H
       have p575 : 0 ≤ (x41_3 : Int) := sqD
       have q575 : x41_3 < (x8_9.length : Int) := sqD
       obtain ⟨ad575, e575, hx575_0⟩ := Kd.at_int (Kd.R_reads' HO_39.out).2.2 x41_3 p575 q575
       cases e575
       replace p575 := eq_true p575
       replace q575 := eq_true q575
       go_wp2_with (first | ((with_reducible refine gcl (f := 72) rfl ?_); refine gL (some 49) rfl rfl Tryz.func72 (by kernel_rfl) rfl #[.int .u64 (rd x8_9 x41_3), .int .i64 a1] rfl sqA ?_; (with_reducible refine (w2_written.calls k3 (rd x8_9 x41_3) a1 t576 _ ⟨htab.out.below sqB⟩ A19.out).mono ?_); rintro e w25 ⟨rfl, hb⟩; refine ⟨_, rfl, ?_⟩; have n0_ := Sd.mk (Kd.R_below (sqR HO_39.out) hb); have n1_ := Sd.mk (bst sqB hb); clear HO_39; clear HB; have HO_39 := n0_; have HB := n1_; clear n0_ n1_; (try clear hb); (try clear hb2); (try clear hk); (try clear hi)) | ((with_reducible refine gcl (f := 7) rfl ?_); refine gL (some 52) rfl rfl Tryz.func7 (by kernel_rfl) rfl #[.string t576] rfl sqA ?_; (with_reducible refine (w2_Parse.calls k3 t576 t577 t578 _ A20.out).mono ?_); rintro e w26 ⟨rfl, hb⟩; refine ⟨_, rfl, ?_⟩; have n0_ := Sd.mk (Kd.R_below (sqR HO_39.out) hb); have n1_ := Sd.mk (bst sqB hb); clear HO_39; clear HB; have HO_39 := n0_; have HB := n1_; clear n0_ n1_; (try clear hb); (try clear hb2); (try clear hk); (try clear hi)))
       go_roundg k3
       case measure => have := HJ3.out; have := HJ9.out; have := HK3.out; omega
       case rel => exact ⟨(wrap64 (x41_3 + 1)), sqE, H', ⟨by have := HJ3.out; have := HJ9.out; have := HK3.out; omega⟩, ⟨sqR HO_39.out⟩, ⟨sqB⟩⟩
end Go.Proofs.YtfmjdoofopamkaaGreatDoor.W
