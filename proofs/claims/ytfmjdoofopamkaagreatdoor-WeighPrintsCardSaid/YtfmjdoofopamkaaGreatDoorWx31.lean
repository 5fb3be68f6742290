import Derived.Test.YtfmjdoofopamkaaGreatDoorWx0
import Derived.Test.YtfmjdoofopamkaaGreatDoorWx8
import Derived.Test.YtfmjdoofopamkaaGreatDoorWx13
import Derived.Test.YtfmjdoofopamkaaGreatDoorWx14
import Derived.Test.YtfmjdoofopamkaaGreatDoorWx15
namespace Go.Proofs.YtfmjdoofopamkaaGreatDoor.W
open Go.RowKit Go.Proofs.YtfmjdoofopamkaaGreatDoorW.PrintWords Go.Proofs.YtfmjdoofopamkaaGreatDoorW.PrintLast Go.Proofs.YtfmjdoofopamkaaGreatDoorW.PrintMore
set_option maxHeartbeats 8000000
set_option maxRecDepth 100000
attribute [local go_sem] max2_int min2_int max_two min_two max_three min_three max_four min_four
set_option linter.unusedVariables false
set_option linter.unusedSimpArgs false
def r2_scaled.f (k : Nat) (l0 : List Int) (l1 : List Int) (a2 : Int) : Option (Int) := if a2 ≥ 0 then ((r2_Ten.f k a2).bind fun t760 => ((r2_Product.f k l1 t760).bind fun t763 => ((r2_Cmp.f k l0 t763).bind fun t766 => (some t766)))) else ((r2_Ten.f k (wrap64 (-a2))).bind fun t767 => ((r2_Product.f k l0 t767).bind fun t770 => ((r2_Cmp.f k t770 l1).bind fun t773 => (some t773))))
theorem r2_scaled.mono : ∀ a0 a1 a2 k, LeO (r2_scaled.f k a0 a1 a2) (r2_scaled.f (k + 1) a0 a1 a2) := by
 intro a0 a1 a2 k
 unfold r2_scaled.f
 repeat' first | (with_reducible first | apply r2_Cmp.mono | apply r2_Product.mono | apply r2_Ten.mono | apply LeO.refl | apply LeO.none | refine LeO.ite ?_ ?_ | refine LeO.bind ?_ (fun _ => ?_)) | apply LeO.none | refine LeO.ite ?_ ?_ | refine LeO.bind ?_ (fun _ => ?_)
theorem r2_scaled.calls (k : Nat) (A0 : Option Addr) (c0 : Nat) (l0 : List Int) (A1 : Option Addr) (c1 : Nat) (l1 : List Int) (a2 : Int) (r : Int) (w : World) (hr0 : Kd.C (Kd.int .u32) w A0 l0.length l0) (hc0 : l0.length ≤ c0) (hr1 : Kd.C (Kd.int .u32) w A1 l1.length l1) (hc1 : l1.length ≤ c1) (h : r2_scaled.f k l0 l1 a2 = some r) :
  Calls Tryz.prog 76 #[.slice A0 l0.length c0, .slice A1 l1.length c1, .int .i64 a2] w fun e w' => e = .returned (.int .i64 r) ∧ Below w.heap.size w w' := by
 have HR0 := Sd.mk hr0
 have HC0 := Sd.mk hc0
 clear hr0 hc0
 have HR1 := Sd.mk hr1
 have HC1 := Sd.mk hc1
 clear hr1 hc1
 have HB := Sd.mk (Below.refl w.heap.size w)
 have H : (if a2 ≥ 0 then ((r2_Ten.f k a2).bind fun t760 => ((r2_Product.f k l1 t760).bind fun t763 => ((r2_Cmp.f k l0 t763).bind fun t766 => (some t766)))) else ((r2_Ten.f k (wrap64 (-a2))).bind fun t767 => ((r2_Product.f k l0 t767).bind fun t770 => ((r2_Cmp.f k t770 l1).bind fun t773 => (some t773))))) = some r := h
 clear h
 by_cases c4 : a2 ≥ 0
 ·rw [if_pos c4] at H
  have c4b0 := decide_eq_true c4
  clear c4
  obtain ⟨t760, A5, H⟩ := sqO H
  try dsimp only at H
  obtain ⟨t763, A6, H⟩ := sqO H
  try dsimp only at H
  obtain ⟨t766, A7, H⟩ := sqO H
  try dsimp only at H
  obtain rfl := Option.some.inj H
  go_enter Tryz.func76, Tryz.ntmps76
  go_wp2_with (first | ((with_reducible refine gcl (f := 64) rfl ?_); refine gL (some 12) rfl rfl Tryz.func64 (by kernel_rfl) rfl #[.int .i64 a2] rfl sqA ?_; (with_reducible refine (r2_Ten.calls k a2 t760 _ A5.out).mono ?_); rintro e w8 ⟨v761, rfl, ho0, hb⟩; refine ⟨_, rfl, ?_⟩; have n0_ := Sd.mk (Kd.R_lower ho0 (bsz sqB)); have n1_ := Sd.mk (bst sqB hb); clear HB; have HO762 := n0_; have HB := n1_; clear n0_ n1_; (try clear hb); (try clear hb2); (try clear hk); (try clear hi); (try clear ho0); obtain ⟨Ao9, co9, eo9⟩ := Kd.R_slice HO762.out; subst eo9) | ((with_reducible refine gcl (f := 63) rfl ?_); refine gL (some 13) rfl rfl Tryz.func63 (by kernel_rfl) rfl #[.slice A1 l1.length c1, .slice Ao9 t760.length co9] rfl sqA ?_; (with_reducible refine (r2_Product.calls k _ _ l1 _ _ t760 t763 _ ?side1 ?side2 ?side3 ?side4 A6.out).mono ?_); (case side1 => repeat (first | exact (Kd.C_below HR1.out HB.out) | (with_reducible refine Kd.C_alloc ?_ _) | (with_reducible refine Kd.C_drewN ?_ _) | (with_reducible refine Kd.C_drew ?_))); (case side2 => exact HC1.out); (case side3 => repeat (first | exact (Kd.R_reads' HO762.out).2.2 | (with_reducible refine Kd.C_alloc ?_ _) | (with_reducible refine Kd.C_drewN ?_ _) | (with_reducible refine Kd.C_drew ?_))); (case side4 => exact (Kd.R_reads' HO762.out).2.1); rintro e w10 ⟨v764, rfl, ho0, hb⟩; refine ⟨_, rfl, ?_⟩; have n0_ := Sd.mk (Kd.R_elder' (sqR HO762.out) (Kd.R_base ho0) hb); have n1_ := Sd.mk (Kd.R_lower (Kd.R_new' ho0 (Kd.R_lt (sqR HO762.out))) (bsz sqB)); have n2_ := Sd.mk (bst sqB hb); clear HO762; clear HB; have HO762 := n0_; have HO765 := n1_; have HB := n2_; clear n0_ n1_ n2_; (try clear hb); (try clear hb2); (try clear hk); (try clear hi); (try clear ho0); obtain ⟨Ao11, co11, eo11⟩ := Kd.R_slice HO765.out; subst eo11) | ((with_reducible refine gcl (f := 80) rfl ?_); refine gL (some 14) rfl rfl Tryz.func80 (by kernel_rfl) rfl #[.slice A0 l0.length c0, .slice Ao11 t763.length co11] rfl sqA ?_; (with_reducible refine (r2_Cmp.calls k _ _ l0 _ _ t763 t766 _ ?side1 ?side2 ?side3 ?side4 A7.out).mono ?_); (case side1 => repeat (first | exact (Kd.C_below HR0.out HB.out) | (with_reducible refine Kd.C_alloc ?_ _) | (with_reducible refine Kd.C_drewN ?_ _) | (with_reducible refine Kd.C_drew ?_))); (case side2 => exact HC0.out); (case side3 => repeat (first | exact (Kd.R_reads' HO765.out).2.2 | (with_reducible refine Kd.C_alloc ?_ _) | (with_reducible refine Kd.C_drewN ?_ _) | (with_reducible refine Kd.C_drew ?_))); (case side4 => exact (Kd.R_reads' HO765.out).2.1); rintro e w' ⟨rfl, ⟨nd, rfl⟩⟩; refine ⟨_, rfl, ?_⟩))
  go_ret
  exact ⟨sqE', sqB⟩
 rw [if_neg c4] at H
 have c4b0 := decide_eq_false c4
 clear c4
 obtain ⟨t767, A12, H⟩ := sqO H
 try dsimp only at H
 obtain ⟨t770, A13, H⟩ := sqO H
 try dsimp only at H
 obtain ⟨t773, A14, H⟩ := sqO H
 try dsimp only at H
 obtain rfl := Option.some.inj H
 go_enter Tryz.func76, Tryz.ntmps76
 go_wp2_with (first | ((with_reducible refine gcl (f := 64) rfl ?_); refine gL (some 18) rfl rfl Tryz.func64 (by kernel_rfl) rfl #[.int .i64 (wrap64 (-a2))] rfl sqA ?_; (with_reducible refine (r2_Ten.calls k (wrap64 (-a2)) t767 _ A12.out).mono ?_); rintro e w15 ⟨v768, rfl, ho0, hb⟩; refine ⟨_, rfl, ?_⟩; have n0_ := Sd.mk (Kd.R_lower ho0 (bsz sqB)); have n1_ := Sd.mk (bst sqB hb); clear HB; have HO769 := n0_; have HB := n1_; clear n0_ n1_; (try clear hb); (try clear hb2); (try clear hk); (try clear hi); (try clear ho0); obtain ⟨Ao16, co16, eo16⟩ := Kd.R_slice HO769.out; subst eo16) | ((with_reducible refine gcl (f := 63) rfl ?_); refine gL (some 19) rfl rfl Tryz.func63 (by kernel_rfl) rfl #[.slice A0 l0.length c0, .slice Ao16 t767.length co16] rfl sqA ?_; (with_reducible refine (r2_Product.calls k _ _ l0 _ _ t767 t770 _ ?side1 ?side2 ?side3 ?side4 A13.out).mono ?_); (case side1 => repeat (first | exact (Kd.C_below HR0.out HB.out) | (with_reducible refine Kd.C_alloc ?_ _) | (with_reducible refine Kd.C_drewN ?_ _) | (with_reducible refine Kd.C_drew ?_))); (case side2 => exact HC0.out); (case side3 => repeat (first | exact (Kd.R_reads' HO769.out).2.2 | (with_reducible refine Kd.C_alloc ?_ _) | (with_reducible refine Kd.C_drewN ?_ _) | (with_reducible refine Kd.C_drew ?_))); (case side4 => exact (Kd.R_reads' HO769.out).2.1); rintro e w17 ⟨v771, rfl, ho0, hb⟩; refine ⟨_, rfl, ?_⟩; have n0_ := Sd.mk (Kd.R_elder' (sqR HO769.out) (Kd.R_base ho0) hb); have n1_ := Sd.mk (Kd.R_lower (Kd.R_new' ho0 (Kd.R_lt (sqR HO769.out))) (bsz sqB)); have n2_ := Sd.mk (bst sqB hb); clear HO769; clear HB; have HO769 := n0_; have HO772 := n1_; have HB := n2_; clear n0_ n1_ n2_; (try clear hb); (try clear hb2); (try clear hk); (try clear hi); (try clear ho0); obtain ⟨Ao18, co18, eo18⟩ := Kd.R_slice HO772.out; subst eo18) | ((with_reducible refine gcl (f := 80) rfl ?_); refine gL (some 21) rfl rfl Tryz.func80 (by kernel_rfl) rfl #[.slice Ao18 t770.length co18, .slice A1 l1.length c1] rfl sqA ?_; (with_reducible refine (r2_Cmp.calls k _ _ t770 _ _ l1 t773 _ ?side1 ?side2 ?side3 ?side4 A14.out).mono ?_); (case side1 => repeat (first | exact (Kd.R_reads' HO772.out).2.2 | (with_reducible refine Kd.C_alloc ?_ _) | (with_reducible refine Kd.C_drewN ?_ _) | (with_reducible refine Kd.C_drew ?_))); (case side2 => exact (Kd.R_reads' HO772.out).2.1); (case side3 => repeat (first | exact (Kd.C_below HR1.out HB.out) | (with_reducible refine Kd.C_alloc ?_ _) | (with_reducible refine Kd.C_drewN ?_ _) | (with_reducible refine Kd.C_drew ?_))); (case side4 => exact HC1.out); rintro e w' ⟨rfl, ⟨nd, rfl⟩⟩; refine ⟨_, rfl, ?_⟩))
 go_ret
 exact ⟨sqE', sqB⟩
def r2_decimal.l0 : Nat → Int → ByteArray → Option (ByteArray)
 | 0, _, _ => none
 | k + 1, x0, x3 => if x0 > 0 then ((some (([(IntKind.u64.wrap (48 + (Int.tmod x0 10))) % 256] : List Int) : List Int)).bind fun y774 => (if (strOfNums y774).size + x3.size ≤ 9223372036854775807 then (r2_decimal.l0 k (IntKind.u64.wrap (Int.tdiv x0 10)) ((strOfNums y774) ++ x3)) else (none))) else (some x3)
def r2_decimal.f (k : Nat) (a0 : Int) : Option (ByteArray) := if a0 = 0 then (some (⟨#[48]⟩ : ByteArray)) else (r2_decimal.l0 k a0 (⟨#[]⟩ : ByteArray))
theorem r2_decimal.mono_l : ∀ k, (∀ y0 y1, LeO (r2_decimal.l0 k y0 y1) (r2_decimal.l0 (k + 1) y0 y1))
 | 0 => fun _ _ r h => by simp [r2_decimal.l0] at h
 | k + 1 => by
  have ih0 := r2_decimal.mono_l k
  intro y0 y1
  unfold r2_decimal.l0
  repeat' first | (with_reducible first | apply ih0 | apply LeO.refl | apply LeO.none | refine LeO.ite ?_ ?_ | refine LeO.bind ?_ (fun _ => ?_)) | apply LeO.none | refine LeO.ite ?_ ?_ | refine LeO.bind ?_ (fun _ => ?_)
theorem r2_decimal.mono : ∀ a0 k, LeO (r2_decimal.f k a0) (r2_decimal.f (k + 1) a0) := by
 intro a0 k
 have ih0 := r2_decimal.mono_l k
 unfold r2_decimal.f
 repeat' first | (with_reducible first | apply ih0 | apply LeO.refl | apply LeO.none | refine LeO.ite ?_ ?_ | refine LeO.bind ?_ (fun _ => ?_)) | apply LeO.none | refine LeO.ite ?_ ?_ | refine LeO.bind ?_ (fun _ => ?_)
theorem r2_decimal.calls (k : Nat) (a0 : Int) (r : ByteArray) (w : World) (h : r2_decimal.f k a0 = some r) :
  Calls Tryz.prog 44 #[.int .u64 a0] w fun e w' => e = .returned (.string r) ∧ Below w.heap.size w w' := by
 have HB := Sd.mk (Below.refl w.heap.size w)
 have H : (if a0 = 0 then (some (⟨#[48]⟩ : ByteArray)) else (r2_decimal.l0 k a0 (⟨#[]⟩ : ByteArray))) = some r := h
 clear h
 by_cases c2 : a0 = 0
 ·rw [if_pos c2] at H
  have c2b0 := beq_iff_eq.mpr c2
  have c2b1 := bne_eq_false_iff_eq.mpr c2
  clear c2
  obtain rfl := Option.some.inj H
  go_enter Tryz.func44, Tryz.ntmps44
  go_wp2
  go_ret
  exact ⟨sqE', sqB⟩
 rw [if_neg c2] at H
 have c2b0 := beq_eq_false_iff_ne.mpr c2
 have c2b1 := bne_iff_ne.mpr c2
 have H' := Sd.mk H
 clear H
 go_enter Tryz.func44, Tryz.ntmps44
 go_wp2
 go_loopg [0, 3] k (fun kq v0 v3 w' => ∃ (x0_1 : Int) (x3_1 : ByteArray), v0 = .int .u64 x0_1 ∧ v3 = .string x3_1 ∧ Sd (r2_decimal.l0 kq x0_1 x3_1 = some r) ∧ Sd (kq ≤ k) ∧ Sd (Below w.heap.size w w'))
 case atStart => exact ⟨(a0), ((⟨#[]⟩ : ByteArray)), sqE, sqE, H', ⟨Nat.le_refl _⟩, ⟨sqB⟩⟩
 case round =>
  clear H'
  try clear c2
  try clear c2b0
  try clear c2b1
  try clear p2
  obtain ⟨x0_1, x3_1, rfl, rfl, HA, HK1, HB⟩ := hrel
  cases gk with
  | zero => exact absurd HA.out (by simp [r2_decimal.l0])
  | succ k1 =>
   have H := HA.out
   clear HA
   simp only [r2_decimal.l0] at H
   by_cases c3 : x0_1 > 0
   case neg =>
    rw [if_neg c3] at H
    have c3b0 := decide_eq_false c3
    clear c3
    obtain rfl := Option.some.inj H
    go_wp2
    go_ret
    exact ⟨sqE', sqB⟩
   rw [if_pos c3] at H
   have c3b0 := decide_eq_true c3
   clear c3
   obtain ⟨y774, hy774⟩ : ∃ y_ : List Int, y_ = (([(IntKind.u64.wrap (48 + (Int.tmod x0_1 10))) % 256] : List Int)) := ⟨_, rfl⟩
   replace H : (if (strOfNums y774).size + x3_1.size ≤ 9223372036854775807 then (r2_decimal.l0 k1 (IntKind.u64.wrap (Int.tdiv x0_1 10)) ((strOfNums y774) ++ x3_1)) else (none)) = some r := by first | (rw [hy774]; with_reducible exact H) | (have H2_ := (Option.bind_some _ _).symm.trans H; rw [hy774]; with_reducible exact H2_) | (have H2_ := (Option.bind_some _ _).symm.trans H; with_reducible exact H2_) | with_reducible exact H | (rw [hy774]; exact H) | exact H
   have Ny774 := Sd.mk hy774
   clear hy774
   by_cases c4 : (strOfNums y774).size + x3_1.size ≤ 9223372036854775807
   case neg => rw [if_neg c4] at H; exact absurd H (by simp)
   rw [if_pos c4] at H
   have c4b0 := eq_true c4
   have c4b1 := decide_eq_true c4
   try have c4b2 : (9223372036854775807 < (strOfNums y774).size + x3_1.size) = False := eq_false (Nat.not_lt.2 c4)
   have H' := Sd.mk H
   clear H
   go_wp2_with (first | ((with_reducible refine gds (N := 12) rfl ?_); refine Kd.R_lit (Kd.int .u8) _ 5 ?hg (N := 12) ?hd (xs := ([(IntKind.u64.wrap (48 + (Int.tmod x0_1 10))) % 256] : List Int)) (inner := [.int .u8 ((IntKind.u64.wrap (48 + (Int.tmod x0_1 10))) % 256)]) (ok := fun _ => True) (okp := fun _ => True) ?hr ?hp (fun _ hk => hk) trivial (Below.refl _ _) (Nat.le_refl _) (by simp) ?_; (case hd => rfl); (case hg => rfl); (case hr => first | (go_simp; done) | (go_simp; rfl)); (case hp => exact (Reps.one (show Kd.M (Kd.int .u8) _ _ _ ((IntKind.u64.wrap (48 + (Int.tmod x0_1 10))) % 256) [.int .u8 ((IntKind.u64.wrap (48 + (Int.tmod x0_1 10))) % 256)] from rfl) (Reps.none _ _))); intro v775 w5 ho6 hb hg_ hnew_; clear hg_ hnew_; (first | rw [← Ny774.out] at ho6 | (simp only [Int.reduceToNat] at ho6; rw [← Ny774.out] at ho6)); have n0_ := Sd.mk (Kd.R_lower ho6 (bsz sqB)); have n1_ := Sd.mk (bst sqB hb); clear HB; have HO776 := n0_; have HB := n1_; clear n0_ n1_; clear hb ho6; have hcv7 := own_string (P := Tryz.prog) Tryz.underlying104 Tryz.underlying5 Tryz.underlying9 (Kd.own_of_R HO776.out)))
   go_roundg k1
   case measure => have := HK1.out; omega
   case rel => exact ⟨(IntKind.u64.wrap (Int.tdiv x0_1 10)), ((strOfNums y774) ++ x3_1), sqE, sqE, H', ⟨by have := HK1.out; omega⟩, ⟨sqB⟩⟩
def r2_reads.f (k : Nat) (a0 : Int) (a1 : Int) (a2 : Int) : Option (Bool) := (r2_decimal.f k a0).bind fun t777 => ((r2_Nearest.f k t777 a1).bind fun bt778 => (if bt778.2 = true then (if bt778.1 = a2 then (some (decide (a0 > 0))) else (some false)) else (some false)))
theorem r2_reads.mono : ∀ a0 a1 a2 k, LeO (r2_reads.f k a0 a1 a2) (r2_reads.f (k + 1) a0 a1 a2) := by
 intro a0 a1 a2 k
 unfold r2_reads.f
 repeat' first | (with_reducible first | apply r2_Nearest.mono | apply r2_decimal.mono | apply LeO.refl | apply LeO.none | refine LeO.ite ?_ ?_ | refine LeO.bind ?_ (fun _ => ?_)) | apply LeO.none | refine LeO.ite ?_ ?_ | refine LeO.bind ?_ (fun _ => ?_)
theorem r2_reads.calls (k : Nat) (a0 : Int) (a1 : Int) (a2 : Int) (r : Bool) (w : World) (h : r2_reads.f k a0 a1 a2 = some r) :
  Calls Tryz.prog 79 #[.int .u64 a0, .int .i64 a1, .int .u64 a2] w fun e w' => e = .returned (.bool r) ∧ Below w.heap.size w w' := by
 have HB := Sd.mk (Below.refl w.heap.size w)
 have H : ((r2_decimal.f k a0).bind fun t777 => ((r2_Nearest.f k t777 a1).bind fun bt778 => (if bt778.2 = true then (if bt778.1 = a2 then (some (decide (a0 > 0))) else (some false)) else (some false)))) = some r := h
 clear h
 obtain ⟨t777, A4, H⟩ := sqO H
 try dsimp only at H
 obtain ⟨⟨t778, t779⟩, A5, H⟩ := sqO H
 try dsimp only at H
 by_cases c6 : t779 = true
 case neg =>
  replace c6 := Bool.eq_false_iff.mpr c6
  subst c6
  have H1 : (some false) = some r := by rw [if_neg (show ¬ (false = true) by decide)] at H; exact H
  clear H
  have H := H1
  clear H1
  obtain rfl := Option.some.inj H
  go_enter Tryz.func79, Tryz.ntmps79
  go_wp2_with (first | ((with_reducible refine gcl (f := 44) rfl ?_); refine gL (some 11) rfl rfl Tryz.func44 (by kernel_rfl) rfl #[.int .u64 a0] rfl sqA ?_; (with_reducible refine (r2_decimal.calls k a0 t777 _ A4.out).mono ?_); rintro e w12 ⟨rfl, hb⟩; refine ⟨_, rfl, ?_⟩; have n0_ := Sd.mk (bst sqB hb); clear HB; have HB := n0_; clear n0_; (try clear hb); (try clear hb2); (try clear hk); (try clear hi)) | ((with_reducible refine gcl (f := 33) rfl ?_); refine gL (some 13) rfl rfl Tryz.func33 (by kernel_rfl) rfl #[.string t777, .int .i64 a1] rfl sqA ?_; (with_reducible refine (r2_Nearest.calls k t777 a1 t778 false _ A5.out).mono ?_); rintro e w13 ⟨rfl, hb⟩; refine ⟨_, rfl, ?_⟩; have n0_ := Sd.mk (bst sqB hb); clear HB; have HB := n0_; clear n0_; (try clear hb); (try clear hb2); (try clear hk); (try clear hi)))
  go_ret
  exact ⟨sqE', sqB⟩
 subst c6
 have H1 : (if t778 = a2 then (some (decide (a0 > 0))) else (some false)) = some r := by rw [if_pos rfl] at H; exact H
 clear H
 have H := H1
 clear H1
 by_cases c7 : t778 = a2
 ·rw [if_pos c7] at H
  have c7b0 := beq_iff_eq.mpr c7
  have c7b1 := bne_eq_false_iff_eq.mpr c7
  clear c7
  obtain rfl := Option.some.inj H
  go_enter Tryz.func79, Tryz.ntmps79
  go_wp2_with (first | ((with_reducible refine gcl (f := 44) rfl ?_); refine gL (some 11) rfl rfl Tryz.func44 (by kernel_rfl) rfl #[.int .u64 a0] rfl sqA ?_; (with_reducible refine (r2_decimal.calls k a0 t777 _ A4.out).mono ?_); rintro e w8 ⟨rfl, hb⟩; refine ⟨_, rfl, ?_⟩; have n0_ := Sd.mk (bst sqB hb); clear HB; have HB := n0_; clear n0_; (try clear hb); (try clear hb2); (try clear hk); (try clear hi)) | ((with_reducible refine gcl (f := 33) rfl ?_); refine gL (some 13) rfl rfl Tryz.func33 (by kernel_rfl) rfl #[.string t777, .int .i64 a1] rfl sqA ?_; (with_reducible refine (r2_Nearest.calls k t777 a1 t778 true _ A5.out).mono ?_); rintro e w9 ⟨rfl, hb⟩; refine ⟨_, rfl, ?_⟩; have n0_ := Sd.mk (bst sqB hb); clear HB; have HB := n0_; clear n0_; (try clear hb); (try clear hb2); (try clear hk); (try clear hi)))
  go_ret
  exact ⟨sqE', sqB⟩
 rw [if_neg c7] at H
 have c7b0 := beq_eq_false_iff_ne.mpr c7
 have c7b1 := bne_iff_ne.mpr c7
 obtain rfl := Option.some.inj H
 go_enter Tryz.func79, Tryz.ntmps79
 go_wp2_with (first | ((with_reducible refine gcl (f := 44) rfl ?_); refine gL (some 11) rfl rfl Tryz.func44 (by kernel_rfl) rfl #[.int .u64 a0] rfl sqA ?_; (with_reducible refine (r2_decimal.calls k a0 t777 _ A4.out).mono ?_); rintro e w10 ⟨rfl, hb⟩; refine ⟨_, rfl, ?_⟩; have n0_ := Sd.mk (bst sqB hb); clear HB; have HB := n0_; clear n0_; (try clear hb); (try clear hb2); (try clear hk); (try clear hi)) | ((with_reducible refine gcl (f := 33) rfl ?_); refine gL (some 13) rfl rfl Tryz.func33 (by kernel_rfl) rfl #[.string t777, .int .i64 a1] rfl sqA ?_; (with_reducible refine (r2_Nearest.calls k t777 a1 t778 true _ A5.out).mono ?_); rintro e w11 ⟨rfl, hb⟩; refine ⟨_, rfl, ?_⟩; have n0_ := Sd.mk (bst sqB hb); clear HB; have HB := n0_; clear n0_; (try clear hb); (try clear hb2); (try clear hk); (try clear hi)))
 go_ret
 exact ⟨sqE', sqB⟩
def r2_bare.l0 : Nat → Int → Int → Option (Int × Int)
 | 0, _, _ => none
 | k + 1, x0, x1 => if (Int.tmod x0 10) = 0 then (if x0 > 0 then (r2_bare.l0 k (IntKind.u64.wrap (Int.tdiv x0 10)) (wrap64 (x1 + 1))) else (some (x0, x1))) else (some (x0, x1))
def r2_bare.f (k : Nat) (a0 : Int) (a1 : Int) : Option (Int × Int) := r2_bare.l0 k a0 a1
theorem r2_bare.mono_l : ∀ k, (∀ y0 y1, LeO (r2_bare.l0 k y0 y1) (r2_bare.l0 (k + 1) y0 y1))
 | 0 => fun _ _ r h => by simp [r2_bare.l0] at h
 | k + 1 => by
  have ih0 := r2_bare.mono_l k
  intro y0 y1
  unfold r2_bare.l0
  repeat' first | (with_reducible first | apply ih0 | apply LeO.refl | apply LeO.none | refine LeO.ite ?_ ?_ | refine LeO.bind ?_ (fun _ => ?_)) | apply LeO.none | refine LeO.ite ?_ ?_ | refine LeO.bind ?_ (fun _ => ?_)
theorem r2_bare.mono : ∀ a0 a1 k, LeO (r2_bare.f k a0 a1) (r2_bare.f (k + 1) a0 a1) := by
 intro a0 a1 k
 have ih0 := r2_bare.mono_l k
 unfold r2_bare.f
 repeat' first | (with_reducible first | apply ih0 | apply LeO.refl | apply LeO.none | refine LeO.ite ?_ ?_ | refine LeO.bind ?_ (fun _ => ?_)) | apply LeO.none | refine LeO.ite ?_ ?_ | refine LeO.bind ?_ (fun _ => ?_)
theorem r2_bare.calls (k : Nat) (a0 : Int) (a1 : Int) (r1 : Int) (r2 : Int) (w : World) (h : r2_bare.f k a0 a1 = some (r1, r2)) :
  Calls Tryz.prog 81 #[.int .u64 a0, .int .i64 a1] w fun e w' => e = .returned (.tuple #[.int .u64 r1, .int .i64 r2]) ∧ Drawn0 w w' := by
 have H : (r2_bare.l0 k a0 a1) = some (r1, r2) := h
 clear h
 have H' := Sd.mk H
 clear H
 go_enter Tryz.func81, Tryz.ntmps81
 go_wp2
 go_loopg [0, 1] k (fun kq v0 v1 w' => ∃ (x0_1 : Int) (x1_1 : Int), v0 = .int .u64 x0_1 ∧ v1 = .int .i64 x1_1 ∧ Sd (r2_bare.l0 kq x0_1 x1_1 = some (r1, r2)) ∧ Sd (kq ≤ k) ∧ Drawn0 w w')
 case atStart => exact ⟨(a0), (a1), sqE, sqE, H', ⟨Nat.le_refl _⟩, sqW⟩
 case round =>
  clear H'
  try clear p2
  obtain ⟨x0_1, x1_1, rfl, rfl, HA, HK1, ⟨m1, rfl⟩⟩ := hrel
  cases gk with
  | zero => exact absurd HA.out (by simp [r2_bare.l0])
  | succ k1 =>
   have H := HA.out
   clear HA
   simp only [r2_bare.l0] at H
   by_cases c3 : (Int.tmod x0_1 10) = 0
   case neg =>
    rw [if_neg c3] at H
    have c3b0 := beq_eq_false_iff_ne.mpr c3
    have c3b1 := bne_iff_ne.mpr c3
    simp only [Option.some.injEq, Prod.mk.injEq] at H
    obtain ⟨rfl, rfl⟩ := H
    go_wp2
    go_ret2
    exact ⟨sqE, sqW⟩
   rw [if_pos c3] at H
   have c3b0 := beq_iff_eq.mpr c3
   have c3b1 := bne_eq_false_iff_eq.mpr c3
   clear c3
   by_cases c4 : x0_1 > 0
   ·rw [if_pos c4] at H
    have c4b0 := decide_eq_true c4
    clear c4
    have H' := Sd.mk H
    clear H
    go_wp2
    go_roundg k1
    case measure => have := HK1.out; omega
    case rel => exact ⟨(IntKind.u64.wrap (Int.tdiv x0_1 10)), (wrap64 (x1_1 + 1)), sqE, sqE, H', ⟨by have := HK1.out; omega⟩, sqW⟩
   rw [if_neg c4] at H
   have c4b0 := decide_eq_false c4
   clear c4
   simp only [Option.some.injEq, Prod.mk.injEq] at H
   obtain ⟨rfl, rfl⟩ := H
   go_wp2
   go_ret2
   exact ⟨sqE, sqW⟩
end Go.Proofs.YtfmjdoofopamkaaGreatDoor.W
