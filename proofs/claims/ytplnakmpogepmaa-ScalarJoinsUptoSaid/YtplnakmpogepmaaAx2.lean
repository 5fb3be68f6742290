import Derived.Test.YtplnakmpogepmaaAx0
import Derived.Test.YtplnakmpogepmaaAx1
namespace Go.Proofs.Ytplnakmpogepmaa.A
open Go.RowKit Go.Proofs.YtplnakmpogepmaaW.PrintWords Go.Proofs.YtplnakmpogepmaaW.PrintLast Go.Proofs.YtplnakmpogepmaaW.PrintMore
set_option maxHeartbeats 8000000
set_option maxRecDepth 100000
attribute [local go_sem] max2_int min2_int max_two min_two max_three min_three max_four min_four
set_option linter.unusedVariables false
set_option linter.unusedSimpArgs false
def endonymlaw3_told.f (k : Nat)  : Option (Bool) := (scalar_Decode.f k (⟨#[97, 195, 159]⟩ : ByteArray)).bind fun bt146 => ((scalar_Encode.f k (([223] : List Int))).bind fun bt154 => ((scalar_Decode.f k (⟨#[224, 128]⟩ : ByteArray)).bind fun bt157 => (if bt146.2.2 = 0 then (if bt146.2.1 = 0 then (if (bt146.1.length : Int) = 2 then (if 1 < (bt146.1.length : Int) then (if (rd bt146.1 1) = 223 then (if bt154.1.toList = ([195, 159] : List UInt8) then (if bt154.2.2 = 0 then (if bt157.2.1 = 1 then (if bt157.2.2 = 30 then ((scalar_Split.f k ([] : List Int)).bind fun t163 => (if (t163.length : Int) = 1 then ((scalar_Valid.f 57344).bind fun t166 => (some t166)) else (some false))) else (some false)) else (some false)) else (some false)) else (some false)) else (some false)) else (none)) else (some false)) else (some false)) else (some false))))
theorem endonymlaw3_told.mono : ∀ k, LeO (endonymlaw3_told.f k ) (endonymlaw3_told.f (k + 1) ) := by
 intro  k
 unfold endonymlaw3_told.f
 repeat' first | (with_reducible first | apply scalar_Decode.mono | apply scalar_Encode.mono | apply scalar_Split.mono | apply LeO.refl | apply LeO.none | refine LeO.ite ?_ ?_ | refine LeO.bind ?_ (fun _ => ?_)) | apply LeO.none | refine LeO.ite ?_ ?_ | refine LeO.bind ?_ (fun _ => ?_)
set_option maxRecDepth 100000 in
theorem endonymlaw3_told.at100 : endonymlaw3_told.f 100 = some true := by decide +kernel
theorem endonymlaw3_told.calls (k : Nat)  (r : Bool) (w : World) (h : endonymlaw3_told.f k  = some r) :
  Calls Try.prog 13 #[] w fun e w' => e = .returned (.bool r) ∧ Below w.heap.size w w' := by
 have HB := Aside0.mk (Below.refl w.heap.size w)
 have H : ((scalar_Decode.f k (⟨#[97, 195, 159]⟩ : ByteArray)).bind fun bt146 => ((scalar_Encode.f k (([223] : List Int))).bind fun bt154 => ((scalar_Decode.f k (⟨#[224, 128]⟩ : ByteArray)).bind fun bt157 => (if bt146.2.2 = 0 then (if bt146.2.1 = 0 then (if (bt146.1.length : Int) = 2 then (if 1 < (bt146.1.length : Int) then (if (rd bt146.1 1) = 223 then (if bt154.1.toList = ([195, 159] : List UInt8) then (if bt154.2.2 = 0 then (if bt157.2.1 = 1 then (if bt157.2.2 = 30 then ((scalar_Split.f k ([] : List Int)).bind fun t163 => (if (t163.length : Int) = 1 then ((scalar_Valid.f 57344).bind fun t166 => (some t166)) else (some false))) else (some false)) else (some false)) else (some false)) else (some false)) else (some false)) else (none)) else (some false)) else (some false)) else (some false))))) = some r := h
 have hr : r = true := Option.some.inj ((at_rounds (g := fun k => endonymlaw3_told.f k) endonymlaw3_told.mono (Nat.le_max_left k 100) h).symm.trans (at_rounds (g := fun k => endonymlaw3_told.f k) endonymlaw3_told.mono (Nat.le_max_right k 100) endonymlaw3_told.at100))
 clear h
 obtain ⟨⟨t146, t147, t148⟩, A1, H⟩ := sqO H
 try dsimp only at H
 obtain ⟨y151, hy151⟩ : ∃ y_ : List Int, y_ = (([223] : List Int)) := ⟨_, rfl⟩
 replace H : ((scalar_Encode.f k y151).bind fun bt154 => ((scalar_Decode.f k (⟨#[224, 128]⟩ : ByteArray)).bind fun bt157 => (if t148 = 0 then (if t147 = 0 then (if (t146.length : Int) = 2 then (if 1 < (t146.length : Int) then (if (rd t146 1) = 223 then (if bt154.1.toList = ([195, 159] : List UInt8) then (if bt154.2.2 = 0 then (if bt157.2.1 = 1 then (if bt157.2.2 = 30 then ((scalar_Split.f k ([] : List Int)).bind fun t163 => (if (t163.length : Int) = 1 then ((scalar_Valid.f 57344).bind fun t166 => (some t166)) else (some false))) else (some false)) else (some false)) else (some false)) else (some false)) else (some false)) else (none)) else (some false)) else (some false)) else (some false)))) = some r := by first | (rw [hy151]; with_reducible exact H) | (have H2_ := (Option.bind_some _ _).symm.trans H; rw [hy151]; with_reducible exact H2_) | (have H2_ := (Option.bind_some _ _).symm.trans H; with_reducible exact H2_) | with_reducible exact H | (rw [hy151]; exact H) | exact H
 have Ny151 := Aside0.mk hy151
 clear hy151
 obtain ⟨⟨t154, t155, t156⟩, A2, H⟩ := sqO H
 try dsimp only at H
 obtain ⟨⟨t157, t158, t159⟩, A3, H⟩ := sqO H
 try dsimp only at H
 by_cases c4 : t148 = 0
 case neg => rw [if_neg c4, hr] at H; exact absurd H (by simp)
 rw [if_pos c4] at H
 have c4b0 := beq_iff_eq.mpr c4
 have c4b1 := bne_eq_false_iff_eq.mpr c4
 clear c4
 by_cases c5 : t147 = 0
 case neg => rw [if_neg c5, hr] at H; exact absurd H (by simp)
 rw [if_pos c5] at H
 have c5b0 := beq_iff_eq.mpr c5
 have c5b1 := bne_eq_false_iff_eq.mpr c5
 clear c5
 by_cases c6 : (t146.length : Int) = 2
 case neg => rw [if_neg c6, hr] at H; exact absurd H (by simp)
 rw [if_pos c6] at H
 have c6b0 := beq_iff_eq.mpr c6
 have c6b1 := bne_eq_false_iff_eq.mpr c6
 clear c6
 by_cases c7 : 1 < (t146.length : Int)
 case neg => rw [if_neg c7, hr] at H; exact absurd H (by simp)
 rw [if_pos c7] at H
 have c7b0 := decide_eq_true c7
 have c7b1 : decide (1 < t146.length) = true := decide_eq_true (by omega)
 clear c7
 by_cases c8 : (rd t146 1) = 223
 case neg => rw [if_neg c8, hr] at H; exact absurd H (by simp)
 rw [if_pos c8] at H
 have c8b0 := beq_iff_eq.mpr c8
 have c8b1 := bne_eq_false_iff_eq.mpr c8
 clear c8
 by_cases c9 : t154.toList = ([195, 159] : List UInt8)
 case neg => rw [if_neg c9, hr] at H; exact absurd H (by simp)
 rw [if_pos c9] at H
 have c9b0 := beq_iff_eq.mpr c9
 have c9b1 := bne_eq_false_iff_eq.mpr c9
 clear c9
 by_cases c10 : t156 = 0
 case neg => rw [if_neg c10, hr] at H; exact absurd H (by simp)
 rw [if_pos c10] at H
 have c10b0 := beq_iff_eq.mpr c10
 have c10b1 := bne_eq_false_iff_eq.mpr c10
 clear c10
 by_cases c11 : t158 = 1
 case neg => rw [if_neg c11, hr] at H; exact absurd H (by simp)
 rw [if_pos c11] at H
 have c11b0 := beq_iff_eq.mpr c11
 have c11b1 := bne_eq_false_iff_eq.mpr c11
 clear c11
 by_cases c12 : t159 = 30
 case neg => rw [if_neg c12, hr] at H; exact absurd H (by simp)
 rw [if_pos c12] at H
 have c12b0 := beq_iff_eq.mpr c12
 have c12b1 := bne_eq_false_iff_eq.mpr c12
 clear c12
 obtain ⟨t163, A13, H⟩ := sqO H
 try dsimp only at H
 by_cases c14 : (t163.length : Int) = 1
 case neg => rw [if_neg c14, hr] at H; exact absurd H (by simp)
 rw [if_pos c14] at H
 have c14b0 := beq_iff_eq.mpr c14
 have c14b1 := bne_eq_false_iff_eq.mpr c14
 clear c14
 obtain ⟨t166, A15, H⟩ := sqO H
 try dsimp only at H
 obtain rfl := Option.some.inj H
 go_enter Try.func13, Try.ntmps13
 go_wp2_with (first | ((with_reducible refine gate_callee (f := 11) rfl ?_); refine goesL_ (some 11) rfl rfl Try.func11 (by kernel_rfl) rfl #[.string (⟨#[97, 195, 159]⟩ : ByteArray)] rfl sqA ?_; (with_reducible refine (scalar_Decode.calls k (⟨#[97, 195, 159]⟩ : ByteArray) t146 t147 t148 _ A1.out).mono ?_); rintro e w16 ⟨v149, rfl, ho0, hb⟩; refine ⟨_, rfl, ?_⟩; have n0_ := Aside0.mk (Kd.R_lower ho0 (below_size sqB)); have n1_ := Aside0.mk (below_step sqB hb); clear HB; have HO150 := n0_; have HB := n1_; clear n0_ n1_; (try clear hb); (try clear hb2); (try clear hk); (try clear hi); (try clear ho0)) | ((with_reducible refine gate_dst (N := 16) rfl ?_); (try (refine gate_guard (by rfl) ?_; dsimp only)); refine Kd.R_lit (Kd.int .i32) _ 21 ?hg (N := 16) ?hd (xs := ([223] : List Int)) (inner := [.int .i32 223]) (ok := fun _ => True) (okp := fun _ => True) ?hr ?hp (fun _ hk => hk) trivial (Below.refl _ _) (Nat.le_refl _) (by simp) ?_; (case hd => rfl); (case hg => rfl); (case hr => first | (go_simp; done) | (go_simp; rfl)); (case hp => exact (Reps.one (show Kd.M (Kd.int .i32) _ _ _ 223 [.int .i32 223] from rfl) (Reps.none _ _))); intro v152 w17 ho18 hb hg_ hnew_; clear hg_ hnew_; (first | rw [← Ny151.out] at ho18 | (simp only [Int.reduceToNat] at ho18; rw [← Ny151.out] at ho18)); have n0_ := Aside0.mk (Kd.R_elder' (sqR HO150.out) (Kd.R_base ho18) hb); have n1_ := Aside0.mk (Kd.R_lower (Kd.R_new' ho18 (Kd.R_lt (sqR HO150.out))) (below_size sqB)); have n2_ := Aside0.mk (below_step sqB hb); clear HO150; clear HB; have HO150 := n0_; have HO153 := n1_; have HB := n2_; clear n0_ n1_ n2_; clear hb ho18; obtain ⟨Ao19, co19, eo19⟩ := Kd.R_slice HO153.out; subst eo19) | ((with_reducible refine gate_callee (f := 20) rfl ?_); refine goesL_ (some 17) rfl rfl Try.func20 (by kernel_rfl) rfl #[.slice Ao19 y151.length co19] rfl sqA ?_; (with_reducible refine (scalar_Encode.calls k _ _ y151 t154 t155 t156 _ ?side1 ?side2 A2.out).mono ?_); (case side1 => repeat (first | exact (Kd.R_reads' HO153.out).2.2 | (with_reducible refine Kd.C_alloc ?_ _) | (with_reducible refine Kd.C_drewN ?_ _) | (with_reducible refine Kd.C_drew ?_))); (case side2 => exact (Kd.R_reads' HO153.out).2.1); rintro e w20 ⟨rfl, hb⟩; refine ⟨_, rfl, ?_⟩; have n0_ := Aside0.mk (Kd.R_below (sqR HO150.out) hb); have n1_ := Aside0.mk (Kd.R_below (sqR HO153.out) hb); have n2_ := Aside0.mk (below_step sqB hb); clear HO150; clear HO153; clear HB; have HO150 := n0_; have HO153 := n1_; have HB := n2_; clear n0_ n1_ n2_; (try clear hb); (try clear hb2); (try clear hk); (try clear hi)) | ((with_reducible refine gate_callee (f := 11) rfl ?_); refine goesL_ (some 22) rfl rfl Try.func11 (by kernel_rfl) rfl #[.string (⟨#[224, 128]⟩ : ByteArray)] rfl sqA ?_; (with_reducible refine (scalar_Decode.calls k (⟨#[224, 128]⟩ : ByteArray) t157 t158 t159 _ A3.out).mono ?_); rintro e w21 ⟨v160, rfl, ho0, hb⟩; refine ⟨_, rfl, ?_⟩; have n0_ := Aside0.mk (Kd.R_elder' (sqR HO150.out) (Kd.R_base ho0) hb); have n1_ := Aside0.mk (Kd.R_elder' (sqR HO153.out) (Kd.R_base ho0) hb); have n2_ := Aside0.mk (Kd.R_lower (Kd.R_new' (Kd.R_new' ho0 (Kd.R_lt (sqR HO150.out))) (Kd.R_lt (sqR HO153.out))) (below_size sqB)); have n3_ := Aside0.mk (below_step sqB hb); clear HO150; clear HO153; clear HB; have HO150 := n0_; have HO153 := n1_; have HO161 := n2_; have HB := n3_; clear n0_ n1_ n2_ n3_; (try clear hb); (try clear hb2); (try clear hk); (try clear hi); (try clear ho0); obtain ⟨Ao22, co22, eo22⟩ := Kd.R_slice HO150.out; subst eo22; have p162 : 0 ≤ (1 : Int) := (by omega); have q162 : 1 < (t146.length : Int) := sqD; obtain ⟨ad162, e162, hx162_0⟩ := Kd.at_int (Kd.R_reads' HO150.out).2.2 1 p162 q162; cases e162; (try simp only [show (1 : Int).toNat = 1 from rfl, Nat.reduceMul, Nat.reduceEqDiff, Go.Addr.add, ↓reduceIte] at hx162_0); have qi162 : (1 < t146.length) = True := eq_true (by omega); (try rw [show ((1 : Int)).toNat = 1 from rfl] at hx162_0); replace p162 := eq_true p162; replace q162 := eq_true q162) | (go_at_call 16; (refine (scalar_Split.calls k _ _ ([] : List Int) t163 _ ?side1 ?side2 A13.out).mono ?_); (case side1 => exact Kd.C_nil _ _); (case side2 => exact Nat.le_refl _); rintro e w23 ⟨v164, rfl, ho0, hb⟩; have n0_ := Aside0.mk (Kd.R_below (sqR HO150.out) hb); have n1_ := Aside0.mk (Kd.R_below (sqR HO153.out) hb); have n2_ := Aside0.mk (Kd.R_below (sqR HO161.out) hb); have n3_ := Aside0.mk (Kd.S_lower (Kd.S_new' (Kd.S_new' (Kd.S_new' ho0 (Kd.R_lt (sqR HO150.out))) (Kd.R_lt (sqR HO153.out))) (Kd.R_lt (sqR HO161.out))) (below_size sqB)); have n4_ := Aside0.mk (below_step sqB hb); clear HO150; clear HO153; clear HO161; clear HB; have HO150 := n0_; have HO153 := n1_; have HO161 := n2_; have HO165 := n3_; have HB := n4_; clear n0_ n1_ n2_ n3_ n4_; (try clear hb); (try clear hb2); (try clear hk); (try clear hi); (try clear ho0); obtain ⟨Ao24, co24, eo24⟩ := Kd.S_slice HO165.out; subst eo24) | (go_at_call 30; (with_reducible refine (scalar_Valid.calls 57344 t166 _ A15.out).mono ?_); rintro e w' ⟨rfl, ⟨nd, rfl⟩⟩))
 go_ret
 exact ⟨sqE', sqB⟩
def endonymref3_Same.l0 : Nat → List Int → List Int → Int → Option (Bool)
 | 0, _, _, _ => none
 | k + 1, x0, x1, x5 => if x5 < (x0.length : Int) then (if 0 ≤ x5 then (if x5 < (x1.length : Int) then (if (rd x0 x5) = (rd x1 x5) then (endonymref3_Same.l0 k x0 x1 (wrap64 (x5 + 1))) else (some false)) else (none)) else (none)) else (some true)
def endonymref3_Same.f (k : Nat) (l0 : List Int) (l1 : List Int) : Option (Bool) := if (l0.length : Int) = (l1.length : Int) then (endonymref3_Same.l0 k l0 l1 0) else (some false)
theorem endonymref3_Same.mono_l : ∀ k, (∀ y0 y1 y2, LeO (endonymref3_Same.l0 k y0 y1 y2) (endonymref3_Same.l0 (k + 1) y0 y1 y2))
 | 0 => fun _ _ _ r h => by simp [endonymref3_Same.l0] at h
 | k + 1 => by
  have ih0 := endonymref3_Same.mono_l k
  intro y0 y1 y2
  unfold endonymref3_Same.l0
  repeat' first | (with_reducible first | apply ih0 | apply LeO.refl | apply LeO.none | refine LeO.ite ?_ ?_ | refine LeO.bind ?_ (fun _ => ?_)) | apply LeO.none | refine LeO.ite ?_ ?_ | refine LeO.bind ?_ (fun _ => ?_)
theorem endonymref3_Same.mono : ∀ a0 a1 k, LeO (endonymref3_Same.f k a0 a1) (endonymref3_Same.f (k + 1) a0 a1) := by
 intro a0 a1 k
 have ih0 := endonymref3_Same.mono_l k
 unfold endonymref3_Same.f
 repeat' first | (with_reducible first | apply ih0 | apply LeO.refl | apply LeO.none | refine LeO.ite ?_ ?_ | refine LeO.bind ?_ (fun _ => ?_)) | apply LeO.none | refine LeO.ite ?_ ?_ | refine LeO.bind ?_ (fun _ => ?_)
theorem endonymref3_Same.calls (k : Nat) (A0 : Option Addr) (c0 : Nat) (l0 : List Int) (A1 : Option Addr) (c1 : Nat) (l1 : List Int) (r : Bool) (w : World) (hr0 : Kd.C (Kd.int .i32) w A0 l0.length l0) (hc0 : l0.length ≤ c0) (hr1 : Kd.C (Kd.int .i32) w A1 l1.length l1) (hc1 : l1.length ≤ c1) (h : endonymref3_Same.f k l0 l1 = some r) :
  Calls Try.prog 14 #[.slice A0 l0.length c0, .slice A1 l1.length c1] w fun e w' => e = .returned (.bool r) ∧ Drawn0 w w' := by
 have HR0 := Aside0.mk hr0
 have HC0 := Aside0.mk hc0
 clear hr0 hc0
 have HR1 := Aside0.mk hr1
 have HC1 := Aside0.mk hc1
 clear hr1 hc1
 have H : (if (l0.length : Int) = (l1.length : Int) then (endonymref3_Same.l0 k l0 l1 0) else (some false)) = some r := h
 clear h
 by_cases c3 : (l0.length : Int) = (l1.length : Int)
 case neg =>
  rw [if_neg c3] at H
  have c3b0 := beq_eq_false_iff_ne.mpr c3
  have c3b1 := bne_iff_ne.mpr c3
  have c3b2 : (l0.length == l1.length) = false := by first | simpa using c3 | (simp at c3 ⊢; omega)
  obtain rfl := Option.some.inj H
  go_enter Try.func14, Try.ntmps14
  go_wp2
  repeat (go_quiet (fail); try go_wp2)
  go_ret
  exact ⟨sqE, sqW⟩
 rw [if_pos c3] at H
 have c3b0 := beq_iff_eq.mpr c3
 have c3b1 := bne_eq_false_iff_eq.mpr c3
 have c3b2 : (l0.length == l1.length) = true := by first | simpa using c3 | (simp at c3 ⊢; omega)
 clear c3
 have H' := Aside0.mk H
 clear H
 go_enter Try.func14, Try.ntmps14
 go_wp2
 repeat (go_quiet (fail); try go_wp2)
 go_loopg [5] k (fun kq v5 w' => ∃ (x5_1 : Int), v5 = .int .i64 x5_1 ∧ Aside0 (endonymref3_Same.l0 kq l0 l1 x5_1 = some r) ∧ Aside0 (kq ≤ k) ∧ Drawn0 w w')
 case atStart => exact ⟨(0), sqE, H', ⟨Nat.le_refl _⟩, sqW⟩
 case round =>
  clear H'
  try clear c1
  try clear p2
  try clear c3
  try clear c3b0
  try clear c3b1
  try clear c3b2
  obtain ⟨x5_1, rfl, HA, HK1, ⟨m1, rfl⟩⟩ := hrel
  cases gk with
  | zero => exact absurd HA.out (by simp [endonymref3_Same.l0])
  | succ k1 =>
   have H := HA.out
   clear HA
   simp only [endonymref3_Same.l0] at H
   by_cases c4 : x5_1 < (l0.length : Int)
   case neg =>
    rw [if_neg c4] at H
    have c4b0 := decide_eq_false c4
    clear c4
    obtain rfl := Option.some.inj H
    go_wp2
    repeat (go_quiet (fail); try go_wp2)
    go_ret
    exact ⟨sqE, sqW⟩
   rw [if_pos c4] at H
   have c4b0 := decide_eq_true c4
   clear c4
   by_cases c5 : 0 ≤ x5_1
   case neg => rw [if_neg c5] at H; exact absurd H (by simp)
   rw [if_pos c5] at H
   have c5b0 := decide_eq_true c5
   clear c5
   by_cases c6 : x5_1 < (l1.length : Int)
   case neg => rw [if_neg c6] at H; exact absurd H (by simp)
   rw [if_pos c6] at H
   have c6b0 := decide_eq_true c6
   clear c6
   by_cases c7 : (rd l0 x5_1) = (rd l1 x5_1)
   case neg =>
    rw [if_neg c7] at H
    have c7b0 := beq_eq_false_iff_ne.mpr c7
    have c7b1 := bne_iff_ne.mpr c7
    obtain rfl := Option.some.inj H
    have p167 : 0 ≤ (x5_1 : Int) := sqD
    have q167 : x5_1 < (l0.length : Int) := sqD
    obtain ⟨ad167, e167, hx167_0⟩ := Kd.at_int HR0.out x5_1 p167 q167
    cases e167
    replace p167 := eq_true p167
    replace q167 := eq_true q167
    have p168 : 0 ≤ (x5_1 : Int) := sqD
    have q168 : x5_1 < (l1.length : Int) := sqD
    obtain ⟨ad168, e168, hx168_0⟩ := Kd.at_int HR1.out x5_1 p168 q168
    cases e168
    replace p168 := eq_true p168
    replace q168 := eq_true q168
    go_wp2
    repeat (go_quiet (fail); try go_wp2)
    go_ret
    exact ⟨sqE, sqW⟩
   rw [if_pos c7] at H
   have c7b0 := beq_iff_eq.mpr c7
   have c7b1 := bne_eq_false_iff_eq.mpr c7
   clear c7
   have H' := Aside0.mk H
   clear H
   have p167 : 0 ≤ (x5_1 : Int) := sqD
   have q167 : x5_1 < (l0.length : Int) := sqD
   obtain ⟨ad167, e167, hx167_0⟩ := Kd.at_int HR0.out x5_1 p167 q167
   cases e167
   replace p167 := eq_true p167
   replace q167 := eq_true q167
   have p168 : 0 ≤ (x5_1 : Int) := sqD
   have q168 : x5_1 < (l1.length : Int) := sqD
   obtain ⟨ad168, e168, hx168_0⟩ := Kd.at_int HR1.out x5_1 p168 q168
   cases e168
   replace p168 := eq_true p168
   replace q168 := eq_true q168
   go_wp2
   repeat (go_quiet (fail); try go_wp2)
   go_roundg k1
   case measure => have := HK1.out; omega
   case rel => exact ⟨(wrap64 (x5_1 + 1)), sqE, H', ⟨by have := HK1.out; omega⟩, sqW⟩
def endonymlaw3_roomy.f (l0 : List Int) : Option (List Int) := if ([] : List Int).length + l0.length < 35184372088832 then ((some (([] : List Int) ++ l0 : List Int)).bind fun y169 => ((some (([(-7), (-8)] : List Int) : List Int)).bind fun y172 => (if y169.length + y172.length < 35184372088832 then ((some (y169 ++ y172 : List Int)).bind fun y175 => (if 0 ≤ (l0.length : Int) then (if (l0.length : Int) ≤ (y175.length : Int) then (some (y175.take ((l0.length : Int) : Int).toNat)) else (none)) else (none))) else (none)))) else (none)
theorem endonymlaw3_roomy.calls (A0 : Option Addr) (c0 : Nat) (l0 : List Int) (r : List Int) (w : World) (hr0 : Kd.C (Kd.int .i32) w A0 l0.length l0) (hc0 : l0.length ≤ c0) (h : endonymlaw3_roomy.f l0 = some r) :
  Calls Try.prog 15 #[.slice A0 l0.length c0] w fun e w' => ∃ v0_ : Value, e = .returned (v0_) ∧ Kd.R (Kd.int .i32) 21 w' w.heap.size (fun _ => True) v0_ r ∧ Below w.heap.size w w' ∧ Rm.Room w' v0_ r.length [.int .i32 (-7), .int .i32 (-8)] := by
 have HR0 := Aside0.mk hr0
 have HC0 := Aside0.mk hc0
 clear hr0 hc0
 have HB := Aside0.mk (Below.refl w.heap.size w)
 have H : (if ([] : List Int).length + l0.length < 35184372088832 then ((some (([] : List Int) ++ l0 : List Int)).bind fun y169 => ((some (([(-7), (-8)] : List Int) : List Int)).bind fun y172 => (if y169.length + y172.length < 35184372088832 then ((some (y169 ++ y172 : List Int)).bind fun y175 => (if 0 ≤ (l0.length : Int) then (if (l0.length : Int) ≤ (y175.length : Int) then (some (y175.take ((l0.length : Int) : Int).toNat)) else (none)) else (none))) else (none)))) else (none)) = some r := h
 clear h
 by_cases c2 : ([] : List Int).length + l0.length < 35184372088832
 case neg => rw [if_neg c2] at H; exact absurd H (by simp)
 rw [if_pos c2] at H
 have LMc2 := Aside0.mk c2
 clear c2
 obtain ⟨y169, hy169⟩ : ∃ y_ : List Int, y_ = (([] : List Int) ++ l0) := ⟨_, rfl⟩
 replace H : ((some (([(-7), (-8)] : List Int) : List Int)).bind fun y172 => (if y169.length + y172.length < 35184372088832 then ((some (y169 ++ y172 : List Int)).bind fun y175 => (if 0 ≤ (l0.length : Int) then (if (l0.length : Int) ≤ (y175.length : Int) then (some (y175.take ((l0.length : Int) : Int).toNat)) else (none)) else (none))) else (none))) = some r := by first | (rw [hy169]; with_reducible exact H) | (have H2_ := (Option.bind_some _ _).symm.trans H; rw [hy169]; with_reducible exact H2_) | (have H2_ := (Option.bind_some _ _).symm.trans H; with_reducible exact H2_) | with_reducible exact H | (rw [hy169]; exact H) | exact H
 have Ny169 := Aside0.mk hy169
 clear hy169
 obtain ⟨y172, hy172⟩ : ∃ y_ : List Int, y_ = (([(-7), (-8)] : List Int)) := ⟨_, rfl⟩
 replace H : (if y169.length + y172.length < 35184372088832 then ((some (y169 ++ y172 : List Int)).bind fun y175 => (if 0 ≤ (l0.length : Int) then (if (l0.length : Int) ≤ (y175.length : Int) then (some (y175.take ((l0.length : Int) : Int).toNat)) else (none)) else (none))) else (none)) = some r := by first | (rw [hy172]; with_reducible exact H) | (have H2_ := (Option.bind_some _ _).symm.trans H; rw [hy172]; with_reducible exact H2_) | (have H2_ := (Option.bind_some _ _).symm.trans H; with_reducible exact H2_) | with_reducible exact H | (rw [hy172]; exact H) | exact H
 have Ny172 := Aside0.mk hy172
 clear hy172
 by_cases c3 : y169.length + y172.length < 35184372088832
 case neg => rw [if_neg c3] at H; exact absurd H (by simp)
 rw [if_pos c3] at H
 have LMc3 := Aside0.mk c3
 clear c3
 obtain ⟨y175, hy175⟩ : ∃ y_ : List Int, y_ = (y169 ++ y172) := ⟨_, rfl⟩
 replace H : (if 0 ≤ (l0.length : Int) then (if (l0.length : Int) ≤ (y175.length : Int) then (some (y175.take ((l0.length : Int) : Int).toNat)) else (none)) else (none)) = some r := by first | (rw [hy175]; with_reducible exact H) | (have H2_ := (Option.bind_some _ _).symm.trans H; rw [hy175]; with_reducible exact H2_) | (have H2_ := (Option.bind_some _ _).symm.trans H; with_reducible exact H2_) | with_reducible exact H | (rw [hy175]; exact H) | exact H
 have Ny175 := Aside0.mk hy175
 clear hy175
 by_cases c4 : 0 ≤ (l0.length : Int)
 case neg => rw [if_neg c4] at H; exact absurd H (by simp)
 rw [if_pos c4] at H
 have c4b0 := eq_true c4
 have c4b1 := decide_eq_true c4
 clear c4
 by_cases c5 : (l0.length : Int) ≤ (y175.length : Int)
 case neg => rw [if_neg c5] at H; exact absurd H (by simp)
 rw [if_pos c5] at H
 have c5b0 := eq_true c5
 have c5b1 := decide_eq_true c5
 clear c5
 obtain ⟨y178, hy178⟩ : ∃ y_ : List Int, y_ = (y175.take ((l0.length : Int) : Int).toNat) := ⟨_, rfl⟩
 replace H : (some y178) = some r := by first | (rw [hy178]; with_reducible exact H) | (have H2_ := (Option.bind_some _ _).symm.trans H; rw [hy178]; with_reducible exact H2_) | (have H2_ := (Option.bind_some _ _).symm.trans H; with_reducible exact H2_) | with_reducible exact H | (rw [hy178]; exact H) | exact H
 have Ny178 := Aside0.mk hy178
 clear hy178
 obtain rfl := Option.some.inj H
 go_enter Try.func15, Try.ntmps15
 go_wp2_with (first | ((with_reducible refine gate_builtin (b := .append) (xs := #[.tmp 7, .tmp 8]) rfl ?_); at_builtin; refine Kd.R_append_rows (Kd.int .i32) (w0 := w) w.heap.size rfl (.tmp 7) (.tmp 8) 22 21 (.int .i32 0) 4 rfl Try.underlying22 info21 rfl (by decide) (by omega) (.slice none 0 0) ([] : List Int) l0 _ _ _ (fun _ => True) (fun _ => False) rfl rfl ?aO ?aR (fun _ _ h => h) (fun _ h => h.elim) ?aF ?aB ?aS ?aL ?_; (case aR => repeat (first | exact HR0.out | (with_reducible refine Kd.C_alloc ?_ _) | (with_reducible refine Kd.C_drewN ?_ _) | (with_reducible refine Kd.C_drew ?_))); (case aB => exact sqB); (case aF => exact (fun _ _ => trivial)); (case aO => exact ((Kd.R_nil _ _ _ _ (fun _ => True)))); (case aS => exact (below_size sqB)); (case aL => have := LMc2.out; omega); intro v170 w6 ho hb hg hat; rw [← Ny169.out] at ho; have n0_ := Aside0.mk (hb); have n1_ := Aside0.mk (ho); clear HB; have HB := n0_; have HO171 := n1_; clear n0_ n1_; clear ho hb hg hat) | ((with_reducible refine gate_dst (N := 11) rfl ?_); refine Kd.R_lit (Kd.int .i32) _ 21 ?hg (N := 11) ?hd (xs := ([(-7), (-8)] : List Int)) (inner := [.int .i32 (-7), .int .i32 (-8)]) (ok := fun _ => True) (okp := fun _ => True) ?hr ?hp (fun _ hk => hk) trivial (Below.refl _ _) (Nat.le_refl _) (by simp) ?_; (case hd => rfl); (case hg => rfl); (case hr => first | (go_simp; done) | (go_simp; rfl)); (case hp => exact (Reps.one (show Kd.M (Kd.int .i32) _ _ _ (-7) [.int .i32 (-7)] from rfl) (Reps.one (show Kd.M (Kd.int .i32) _ _ _ (-8) [.int .i32 (-8)] from rfl) (Reps.none _ _)))); intro v173 w7 ho8 hb hg_ hnew_; clear hg_ hnew_; (first | rw [← Ny172.out] at ho8 | (simp only [Int.reduceToNat] at ho8; rw [← Ny172.out] at ho8)); have n0_ := Aside0.mk (Kd.R_elder' (sqR HO171.out) (Kd.R_base ho8) hb); have n1_ := Aside0.mk (Kd.R_lower (Kd.R_new' ho8 (Kd.R_lt (sqR HO171.out))) (below_size sqB)); have n2_ := Aside0.mk (below_step sqB hb); clear HO171; clear HB; have HO171 := n0_; have HO174 := n1_; have HB := n2_; clear n0_ n1_ n2_; clear hb ho8; obtain ⟨Ao10, co10, eo10⟩ := Kd.R_slice HO174.out; subst eo10) | ((with_reducible refine gate_builtin (b := .append) (xs := #[.tmp 10, .tmp 11]) rfl ?_); at_builtin; refine Kd.R_append_rows (Kd.int .i32) (w0 := w) w.heap.size rfl (.tmp 10) (.tmp 11) 22 21 (.int .i32 0) 4 rfl Try.underlying22 info21 rfl (by decide) (by omega) v170 y169 y172 _ _ _ (fun k_ => some k_ ≠ (.slice Ao10 y172.length co10 : Value).ownBlock) (fun _ => False) rfl rfl ?aO ?aR (fun _ _ h => h) (fun _ h => h.elim) ?aF ?aB ?aS ?aL ?_; (case aR => repeat (first | exact (Kd.R_reads' HO174.out).2.2 | (with_reducible refine Kd.C_alloc ?_ _) | (with_reducible refine Kd.C_drewN ?_ _) | (with_reducible refine Kd.C_drew ?_))); (case aB => exact sqB); (case aF => exact (fun k_ hk => Kd.fresh' (Kd.R_lt (sqR HO174.out)) k_ hk)); (case aO => exact (by (with_reducible repeat (first | apply Kd.R_alloc | apply Kd.R_drewN | apply Kd.R_drew)); exact Kd.R_mono HO171.out (fun _ hk => hk.2))); (case aS => exact (below_size sqB)); (case aL => have := LMc3.out; omega); intro v176 w9 ho hb hg hat; rw [← Ny175.out] at ho; have HFull := Aside0.mk ho; have n0_ := Aside0.mk (Kd.R_after (ok := (fun _ => True)) (sqR HO174.out) hg hat); have n1_ := Aside0.mk (hb); have n2_ := Aside0.mk (ho); clear HO174; clear HB; clear HO171; have HO174 := n0_; have HB := n1_; have HO177 := n2_; clear n0_ n1_ n2_; clear ho hb hg hat; obtain ⟨Ao11, co11, eo11⟩ := Kd.R_slice HO177.out; subst eo11; have q12 : ((l0.length : Int) : Int) ≤ ((y175.length : Int) : Int) := sqD; obtain ⟨i012, hi012, _, hsz12, _⟩ := info_parts info21; have hcut12 := cut_to (P := Try.prog) 22 21 .i64 Try.underlying22 hi012 Ao11 y175.length co11 (l0.length : Int) sqD q12 (Kd.R_reads' HO177.out).2.1; have hr12 := Kd.R_take (m := ((l0.length : Int) : Int).toNat) HO177.out (by omega); have hy12 : y178.length = ((l0.length : Int) : Int).toNat := (by rw [Ny178.out, List.length_take]; omega); rw [← Ny178.out] at hr12; rw [← hy12] at hr12 hcut12; clear hy12 hi012 hsz12 HO177; have HO180 := Aside0.mk hr12; clear hr12; replace q12 := eq_true q12))
 go_ret
 exact ⟨_, sqE', by (with_reducible repeat (first | apply Kd.R_alloc | apply Kd.R_drewN | apply Kd.R_drew)); exact Kd.R_mono HO180.out (fun _ hk => trivial), sqB, by
  have e := Ny169; have e1 := Ny172; have e2 := Ny175; have e3 := Ny178; have hf := HFull.out; rw [e2.out, e.out, e1.out, List.nil_append] at hf; rw [e3.out, e2.out, e.out, e1.out]; simp only [List.nil_append, Int.toNat_natCast, List.take_left']; (try rw [List.take_left' rfl]); exact Rm.room_of_R hf (by simp) _ (by first | rfl | simp)⟩
def endonymlaw3_whole.f (k : Nat) (l0 : List Int) (l1 : List Int) : Option (Bool) := (endonymref3_Same.f k l0 l1).bind fun t181 => (some t181)
theorem endonymlaw3_whole.mono : ∀ a0 a1 k, LeO (endonymlaw3_whole.f k a0 a1) (endonymlaw3_whole.f (k + 1) a0 a1) := by
 intro a0 a1 k
 unfold endonymlaw3_whole.f
 repeat' first | (with_reducible first | apply endonymref3_Same.mono | apply LeO.refl | apply LeO.none | refine LeO.ite ?_ ?_ | refine LeO.bind ?_ (fun _ => ?_)) | apply LeO.none | refine LeO.ite ?_ ?_ | refine LeO.bind ?_ (fun _ => ?_)
theorem endonymlaw3_whole.yes (k : Nat) (g : Nat) (c0 : Nat) (l0 : List Int) (A1 : Option Addr) (c1 : Nat) (l1 : List Int) (w : World) (hr0 : Kd.C (Kd.int .i32) w (some ⟨g, 0, none⟩) l0.length l0) (hc0 : l1.length + 2 ≤ c0) (hr1 : Kd.C (Kd.int .i32) w A1 l1.length l1) (hc1 : l1.length ≤ c1)
  (hl : l0.length = l1.length) (hm : l1.length + 2 ≤ 9223372036854775807)
  (h7 : w.cell? ⟨g, l1.length, none⟩ = some (.int .i32 (-7))) (h8 : w.cell? ⟨g, l1.length + 1, none⟩ = some (.int .i32 (-8))) (h : endonymref3_Same.f k l0 l1 = some true) :
  Calls Try.prog 19 #[.slice (some ⟨g, 0, none⟩) l0.length c0, .slice A1 l1.length c1] w fun e w' => e = .returned (.bool true) ∧ Drawn0 w w' := by
 have HR0 := Aside0.mk hr0
 have HR1 := Aside0.mk hr1
 have HC0 := Aside0.mk (show l0.length ≤ c0 by omega)
 have HC1 := Aside0.mk hc1
 have A3 := Aside0.mk h
 have H7 := Aside0.mk h7
 have H8 := Aside0.mk h8
 clear hr0 hr1 hc1 h h7 h8
 have hs : ∀ W : World, (Instr.slice 22 (.slice (some ⟨g, 0, none⟩) l0.length c0) none (some (.int .i64 ((l1.length : Int) + 2))) none).run Try.prog W = .ok (.slice (some ⟨g, 0, none⟩) (l1.length + 2) c0) W := by
  intro W
  obtain ⟨i0, hi, _, hsz, _⟩ := info_parts info21
  have hel : Try.prog.elem 22 = 21 := by simp [Program.elem, Try.underlying22]
  have hu : Try.prog.underlying 22 = some (.slice (Try.prog.elem 22)) := by rw [hel]; exact Try.underlying22
  have e : (l1.length : Int) + 2 = ((l1.length + 2 : Nat) : Int) := by omega
  rw [e, run_slice_h W 22 (some ⟨g, 0, none⟩) l0.length c0 hu .i64 _ (by omega) (by omega), hel, Int.toNat_natCast]
  simp [sizeOf, typeInfo, hi, hsz, sliced, Result.andThen, Addr.add]
 clear hl
 go_enter Try.func19, Try.ntmps19
 go_wp2_with (first | ((with_reducible refine gate_callee (f := 14) rfl ?_); refine goesL_ (some 10) rfl rfl Try.func14 (by kernel_rfl) rfl #[.slice (some ⟨g, 0, none⟩) l0.length c0, .slice A1 l1.length c1] rfl sqA ?_; (with_reducible refine (endonymref3_Same.calls k _ _ l0 _ _ l1 true _ ?side1 ?side2 ?side3 ?side4 A3.out).mono ?_); (case side1 => repeat (first | exact HR0.out | (with_reducible refine Kd.C_alloc ?_ _) | (with_reducible refine Kd.C_drewN ?_ _) | (with_reducible refine Kd.C_drew ?_))); (case side2 => exact HC0.out); (case side3 => repeat (first | exact HR1.out | (with_reducible refine Kd.C_alloc ?_ _) | (with_reducible refine Kd.C_drewN ?_ _) | (with_reducible refine Kd.C_drew ?_))); (case side4 => exact HC1.out); rintro e w' ⟨rfl, ⟨nd, rfl⟩⟩; refine ⟨_, rfl, ?_⟩; have h7 := H7.out; have h8 := H8.out))
 go_ret
 exact ⟨rfl, sqW⟩
theorem endonymlaw3_whole.calls (k : Nat) (A0 : Option Addr) (c0 : Nat) (l0 : List Int) (A1 : Option Addr) (c1 : Nat) (l1 : List Int) (r : Bool) (w : World) (hr0 : Kd.C (Kd.int .i32) w A0 l0.length l0) (hc0 : l0.length ≤ c0) (hr1 : Kd.C (Kd.int .i32) w A1 l1.length l1) (hc1 : l1.length ≤ c1) (hroom : Rm.Room w (.slice A0 l0.length c0) l0.length [.int .i32 (-7), .int .i32 (-8)]) (h : endonymlaw3_whole.f k l0 l1 = some r) :
  Calls Try.prog 19 #[.slice A0 l0.length c0, .slice A1 l1.length c1] w fun e w' => e = .returned (.bool r) ∧ Drawn0 w w' := by
 obtain ⟨g, c, e, ⟨hc2, hm⟩, hx⟩ := hroom
 obtain ⟨rfl, rfl⟩ : A0 = some ⟨g, 0, none⟩ ∧ c0 = c := by simpa using e
 clear e
 have H : ((endonymref3_Same.f k l0 l1).bind fun t223 => some t223) = some r := h
 clear h
 replace H := Option.bind_eq_some_iff.mp H
 obtain ⟨t223, A30, H⟩ := H
 obtain rfl := Option.some.inj H
 clear H
 cases t223 with
 | true =>
  have hl : l0.length = l1.length := by
   by_cases e : (l0.length : Int) = (l1.length : Int)
   ·
    omega
   ·
    unfold endonymref3_Same.f at A30
    rw [if_neg e] at A30
    cases A30
  have h7 := hx 0 _ rfl
  have h8 := hx 1 _ rfl
  rw [hl] at h7 h8
  exact endonymlaw3_whole.yes k g c0 l0 A1 c1 l1 w hr0 (by simp at hc2; omega) hr1 hc1 hl (by simp at hm; omega) h7 h8 A30
 | false =>
  have HR0 := Aside0.mk hr0
  have HC0 := Aside0.mk hc0
  have HR1 := Aside0.mk hr1
  have HC1 := Aside0.mk hc1
  have A3 := Aside0.mk A30
  clear hr0 hc0 hr1 hc1 A30 hx hc2 hm
  go_enter Try.func19, Try.ntmps19
  go_wp2_with (first | ((with_reducible refine gate_callee (f := 14) rfl ?_); refine goesL_ (some 10) rfl rfl Try.func14 (by kernel_rfl) rfl #[.slice (some ⟨g, 0, none⟩) l0.length c0, .slice A1 l1.length c1] rfl sqA ?_; (with_reducible refine (endonymref3_Same.calls k _ _ l0 _ _ l1 false _ ?side1 ?side2 ?side3 ?side4 A3.out).mono ?_); (case side1 => repeat (first | exact HR0.out | (with_reducible refine Kd.C_alloc ?_ _) | (with_reducible refine Kd.C_drewN ?_ _) | (with_reducible refine Kd.C_drew ?_))); (case side2 => exact HC0.out); (case side3 => repeat (first | exact HR1.out | (with_reducible refine Kd.C_alloc ?_ _) | (with_reducible refine Kd.C_drewN ?_ _) | (with_reducible refine Kd.C_drew ?_))); (case side4 => exact HC1.out); rintro e w' ⟨rfl, ⟨nd, rfl⟩⟩; refine ⟨_, rfl, ?_⟩))
  go_ret
  exact ⟨sqE, sqW⟩
def scalar_Join.l0 : Nat → List Int → List (List Int) → Int → Int → Option (List Int)
 | 0, _, _, _, _ => none
 | k + 1, x3, x6, x7, x8 => if x8 < x7 then (if 0 ≤ x8 then (if x8 < (x6.length : Int) then (if x8 > 0 then (if x3.length < 35184372088832 then ((some (x3 ++ [46] : List Int)).bind fun y183 => (if y183.length + (rd_L1 x6 x8).length < 35184372088832 then (scalar_Join.l0 k (y183 ++ (rd_L1 x6 x8)) x6 x7 (wrap64 (x8 + 1))) else (none))) else (none)) else (if x3.length + (rd_L1 x6 x8).length < 35184372088832 then (scalar_Join.l0 k (x3 ++ (rd_L1 x6 x8)) x6 x7 (wrap64 (x8 + 1))) else (none))) else (none)) else (none)) else (some x3)
def scalar_Join.f (k : Nat) (l0 : List (List Int)) : Option (List Int) := scalar_Join.l0 k ([] : List Int) l0 (l0.length : Int) 0
theorem scalar_Join.mono_l : ∀ k, (∀ y0 y1 y2 y3, LeO (scalar_Join.l0 k y0 y1 y2 y3) (scalar_Join.l0 (k + 1) y0 y1 y2 y3))
 | 0 => fun _ _ _ _ r h => by simp [scalar_Join.l0] at h
 | k + 1 => by
  have ih0 := scalar_Join.mono_l k
  intro y0 y1 y2 y3
  unfold scalar_Join.l0
  repeat' first | (with_reducible first | apply ih0 | apply LeO.refl | apply LeO.none | refine LeO.ite ?_ ?_ | refine LeO.bind ?_ (fun _ => ?_)) | apply LeO.none | refine LeO.ite ?_ ?_ | refine LeO.bind ?_ (fun _ => ?_)
theorem scalar_Join.mono : ∀ a0 k, LeO (scalar_Join.f k a0) (scalar_Join.f (k + 1) a0) := by
 intro a0 k
 have ih0 := scalar_Join.mono_l k
 unfold scalar_Join.f
 repeat' first | (with_reducible first | apply ih0 | apply LeO.refl | apply LeO.none | refine LeO.ite ?_ ?_ | refine LeO.bind ?_ (fun _ => ?_)) | apply LeO.none | refine LeO.ite ?_ ?_ | refine LeO.bind ?_ (fun _ => ?_)
theorem scalar_Join.calls (k : Nat) (A0 : Option Addr) (c0 : Nat) (l0 : List (List Int)) (r : List Int) (w : World) (hr0 : Kd.C (Kd.slice 21 (Kd.int .i32)) w A0 l0.length l0) (hc0 : l0.length ≤ c0) (h : scalar_Join.f k l0 = some r) :
  Calls Try.prog 21 #[.slice A0 l0.length c0] w fun e w' => ∃ v0_ : Value, e = .returned (v0_) ∧ Kd.R (Kd.int .i32) 21 w' w.heap.size (fun _ => True) v0_ r ∧ Below w.heap.size w w' := by
 have HR0 := Aside0.mk hr0
 have HC0 := Aside0.mk hc0
 clear hr0 hc0
 have HB := Aside0.mk (Below.refl w.heap.size w)
 have H : (scalar_Join.l0 k ([] : List Int) l0 (l0.length : Int) 0) = some r := h
 clear h
 have H' := Aside0.mk H
 clear H
 go_enter Try.func21, Try.ntmps21
 go_wp2
 go_loopg [3, 8] k (fun kq v3 v8 w' => ∃ (x3_1 : List Int) (x8_1 : Int), v8 = .int .i64 x8_1 ∧ Aside0 (scalar_Join.l0 kq x3_1 l0 (l0.length : Int) x8_1 = some r) ∧ Aside0 (kq ≤ k) ∧ Aside0 (Kd.R (Kd.int .i32) 21 w' w.heap.size (fun _ => True) v3 x3_1) ∧ Aside0 (Below w.heap.size w w'))
 case atStart => exact ⟨(([] : List Int)), (0), sqE, H', ⟨Nat.le_refl _⟩, ⟨by first | exact Kd.R_nil _ _ _ _ _ | exact Kd.N_nil _ _ _ _ _ | exact Kd.V_nil _ _ _ _ _ | exact Kd.Q_nil _ _ _ _ _ | exact Kd.S_nil _ _ _ _ _⟩, ⟨sqB⟩⟩
 case round =>
  clear H'
  obtain ⟨x3_1, x8_1, rfl, HA, HK1, HO_3, HB⟩ := hrel
  cases gk with
  | zero => exact absurd HA.out (by simp [scalar_Join.l0])
  | succ k1 =>
   have H := HA.out
   clear HA
   simp only [scalar_Join.l0] at H
   by_cases c2 : x8_1 < (l0.length : Int)
   case neg =>
    rw [if_neg c2] at H
    have c2b0 := decide_eq_false c2
    clear c2
    obtain rfl := Option.some.inj H
    go_wp2
    go_ret
    exact ⟨_, sqE', sqR HO_3.out, sqB⟩
   rw [if_pos c2] at H
   have c2b0 := decide_eq_true c2
   clear c2
   by_cases c3 : 0 ≤ x8_1
   case neg => rw [if_neg c3] at H; exact absurd H (by simp)
   rw [if_pos c3] at H
   have c3b0 := decide_eq_true c3
   clear c3
   by_cases c4 : x8_1 < (l0.length : Int)
   case neg => rw [if_neg c4] at H; exact absurd H (by simp)
   rw [if_pos c4] at H
   have c4b0 := decide_eq_true c4
   clear c4
   by_cases c5 : x8_1 > 0
   case neg =>
    rw [if_neg c5] at H
    have c5b0 := decide_eq_false c5
    clear c5
    by_cases c10 : x3_1.length + (rd_L1 l0 x8_1).length < 35184372088832
    case neg => rw [if_neg c10] at H; exact absurd H (by simp)
    rw [if_pos c10] at H
    have LMc10 := Aside0.mk c10
    clear c10
    obtain ⟨y189, hy189⟩ : ∃ y_ : List Int, y_ = (x3_1 ++ (rd_L1 l0 x8_1)) := ⟨_, rfl⟩
    replace H : (scalar_Join.l0 k1 y189 l0 (l0.length : Int) (wrap64 (x8_1 + 1))) = some r := by first | (rw [hy189]; with_reducible exact H) | (have H2_ := (Option.bind_some _ _).symm.trans H; rw [hy189]; with_reducible exact H2_) | (have H2_ := (Option.bind_some _ _).symm.trans H; with_reducible exact H2_) | with_reducible exact H | (rw [hy189]; exact H) | exact H
    have Ny189 := Aside0.mk hy189
    clear hy189
    have H' := Aside0.mk H
    clear H
    have p182 : 0 ≤ (x8_1 : Int) := sqD
    have q182 : x8_1 < (l0.length : Int) := sqD
    obtain ⟨ad182, A182_0, c182_0, e182, hx182_0, hl182_0, hi182_0⟩ := at_L1 HR0.out x8_1 p182 q182
    cases e182
    replace hx182_0 := (HB.out.cell (World.block_lt_of_cell? w _ hx182_0)).trans hx182_0
    have HR182_0 := Aside0.mk hi182_0
    have HC182_0 := Aside0.mk hl182_0
    clear hi182_0 hl182_0
    replace p182 := eq_true p182
    replace q182 := eq_true q182
    go_wp2_with (first | ((with_reducible refine gate_builtin (b := .append) (xs := #[.tmp 18, .tmp 19]) rfl ?_); at_builtin; refine Kd.R_append_rows (Kd.int .i32) (w0 := w) w.heap.size rfl (.tmp 18) (.tmp 19) 22 21 (.int .i32 0) 4 rfl Try.underlying22 info21 rfl (by decide) (by omega) u3 x3_1 (rd_L1 l0 x8_1) _ _ _ (fun _ => True) (fun _ => False) rfl rfl ?aO ?aR (fun _ _ h => h) (fun _ h => h.elim) ?aF ?aB ?aS ?aL ?_; (case aR => repeat (first | exact (Kd.C_below HR182_0.out HB.out) | (with_reducible refine Kd.C_alloc ?_ _) | (with_reducible refine Kd.C_drewN ?_ _) | (with_reducible refine Kd.C_drew ?_))); (case aB => exact sqB); (case aF => exact (fun _ _ => trivial)); (case aO => exact (sqR HO_3.out)); (case aS => exact (below_size sqB)); (case aL => have := LMc10.out; omega); intro v190 w11 ho hb hg hat; rw [← Ny189.out] at ho; have n0_ := Aside0.mk (hb); have n1_ := Aside0.mk (ho); clear HB; clear HO_3; have HB := n0_; have HO191 := n1_; clear n0_ n1_; clear ho hb hg hat))
    go_roundg k1
    case measure => have := HK1.out; omega
    case rel => exact ⟨(y189), (wrap64 (x8_1 + 1)), sqE, H', ⟨by have := HK1.out; omega⟩, ⟨sqR HO191.out⟩, ⟨sqB⟩⟩
   rw [if_pos c5] at H
   have c5b0 := decide_eq_true c5
   clear c5
   by_cases c6 : x3_1.length < 35184372088832
   case neg => rw [if_neg c6] at H; exact absurd H (by simp)
   rw [if_pos c6] at H
   have LMc6 := Aside0.mk c6
   clear c6
   obtain ⟨y183, hy183⟩ : ∃ y_ : List Int, y_ = (x3_1 ++ [46]) := ⟨_, rfl⟩
   replace H : (if y183.length + (rd_L1 l0 x8_1).length < 35184372088832 then (scalar_Join.l0 k1 (y183 ++ (rd_L1 l0 x8_1)) l0 (l0.length : Int) (wrap64 (x8_1 + 1))) else (none)) = some r := by first | (rw [hy183]; with_reducible exact H) | (have H2_ := (Option.bind_some _ _).symm.trans H; rw [hy183]; with_reducible exact H2_) | (have H2_ := (Option.bind_some _ _).symm.trans H; with_reducible exact H2_) | with_reducible exact H | (rw [hy183]; exact H) | exact H
   have Ny183 := Aside0.mk hy183
   clear hy183
   by_cases c7 : y183.length + (rd_L1 l0 x8_1).length < 35184372088832
   case neg => rw [if_neg c7] at H; exact absurd H (by simp)
   rw [if_pos c7] at H
   have LMc7 := Aside0.mk c7
   clear c7
   obtain ⟨y186, hy186⟩ : ∃ y_ : List Int, y_ = (y183 ++ (rd_L1 l0 x8_1)) := ⟨_, rfl⟩
   replace H : (scalar_Join.l0 k1 y186 l0 (l0.length : Int) (wrap64 (x8_1 + 1))) = some r := by first | (rw [hy186]; with_reducible exact H) | (have H2_ := (Option.bind_some _ _).symm.trans H; rw [hy186]; with_reducible exact H2_) | (have H2_ := (Option.bind_some _ _).symm.trans H; with_reducible exact H2_) | with_reducible exact H | (rw [hy186]; exact H) | exact H
   have Ny186 := Aside0.mk hy186
   clear hy186
   have H' := Aside0.mk H
   clear H
   have p182 : 0 ≤ (x8_1 : Int) := sqD
   have q182 : x8_1 < (l0.length : Int) := sqD
   obtain ⟨ad182, A182_0, c182_0, e182, hx182_0, hl182_0, hi182_0⟩ := at_L1 HR0.out x8_1 p182 q182
   cases e182
   replace hx182_0 := (HB.out.cell (World.block_lt_of_cell? w _ hx182_0)).trans hx182_0
   have HR182_0 := Aside0.mk hi182_0
   have HC182_0 := Aside0.mk hl182_0
   clear hi182_0 hl182_0
   replace p182 := eq_true p182
   replace q182 := eq_true q182
   go_wp2_with (first | ((with_reducible refine gate_builtin (b := .append) (xs := #[.tmp 15, .tmp 16]) rfl ?_); at_builtin; refine Kd.R_append (Kd.int .i32) (w0 := w) w.heap.size rfl (.tmp 15) (.tmp 16) 22 21 (.int .i32 0) 4 rfl Try.underlying22 info21 rfl (by decide) (by omega) u3 x3_1 46 [.int .i32 46] (fun _ => True) (fun _ => False) rfl rfl ?aP (fun _ hk => hk.elim) ?aF ?aO ?aB ?aS ?aL ?_; (case aP => exact rfl); (case aB => exact sqB); (case aF => exact (fun _ _ => trivial)); (case aO => exact (sqR HO_3.out)); (case aS => exact (below_size sqB)); (case aL => have := LMc6.out; omega); intro v184 w8 ho hb hg hat; rw [← Ny183.out] at ho; have n0_ := Aside0.mk (hb); have n1_ := Aside0.mk (ho); clear HB; clear HO_3; have HB := n0_; have HO185 := n1_; clear n0_ n1_; clear ho hb hg hat) | ((with_reducible refine gate_builtin (b := .append) (xs := #[.tmp 18, .tmp 19]) rfl ?_); at_builtin; refine Kd.R_append_rows (Kd.int .i32) (w0 := w) w.heap.size rfl (.tmp 18) (.tmp 19) 22 21 (.int .i32 0) 4 rfl Try.underlying22 info21 rfl (by decide) (by omega) v184 y183 (rd_L1 l0 x8_1) _ _ _ (fun _ => True) (fun _ => False) rfl rfl ?aO ?aR (fun _ _ h => h) (fun _ h => h.elim) ?aF ?aB ?aS ?aL ?_; (case aR => repeat (first | exact (Kd.C_below HR182_0.out HB.out) | (with_reducible refine Kd.C_alloc ?_ _) | (with_reducible refine Kd.C_drewN ?_ _) | (with_reducible refine Kd.C_drew ?_))); (case aB => exact sqB); (case aF => exact (fun _ _ => trivial)); (case aO => exact (sqR HO185.out)); (case aS => exact (below_size sqB)); (case aL => have := LMc7.out; omega); intro v187 w9 ho hb hg hat; rw [← Ny186.out] at ho; have n0_ := Aside0.mk (hb); have n1_ := Aside0.mk (ho); clear HB; clear HO185; have HB := n0_; have HO188 := n1_; clear n0_ n1_; clear ho hb hg hat))
   go_roundg k1
   case measure => have := HK1.out; omega
   case rel => exact ⟨(y186), (wrap64 (x8_1 + 1)), sqE, H', ⟨by have := HK1.out; omega⟩, ⟨sqR HO188.out⟩, ⟨sqB⟩⟩
def endonymref3_Join.l0 : Nat → List (List Int) → List Int → Int → Option (List Int)
 | 0, _, _, _ => none
 | k + 1, x0, x3, x4 => if x4 < (x0.length : Int) then (if x4 > 0 then (if x3.length < 35184372088832 then ((some (x3 ++ [46] : List Int)).bind fun y192 => (if 0 ≤ x4 then (if y192.length + (rd_L1 x0 x4).length < 35184372088832 then (endonymref3_Join.l0 k x0 (y192 ++ (rd_L1 x0 x4)) (wrap64 (x4 + 1))) else (none)) else (none))) else (none)) else (if 0 ≤ x4 then (if x3.length + (rd_L1 x0 x4).length < 35184372088832 then (endonymref3_Join.l0 k x0 (x3 ++ (rd_L1 x0 x4)) (wrap64 (x4 + 1))) else (none)) else (none))) else (some x3)
def endonymref3_Join.f (k : Nat) (l0 : List (List Int)) : Option (List Int) := endonymref3_Join.l0 k l0 ([] : List Int) 0
theorem endonymref3_Join.mono_l : ∀ k, (∀ y0 y1 y2, LeO (endonymref3_Join.l0 k y0 y1 y2) (endonymref3_Join.l0 (k + 1) y0 y1 y2))
 | 0 => fun _ _ _ r h => by simp [endonymref3_Join.l0] at h
 | k + 1 => by
  have ih0 := endonymref3_Join.mono_l k
  intro y0 y1 y2
  unfold endonymref3_Join.l0
  repeat' first | (with_reducible first | apply ih0 | apply LeO.refl | apply LeO.none | refine LeO.ite ?_ ?_ | refine LeO.bind ?_ (fun _ => ?_)) | apply LeO.none | refine LeO.ite ?_ ?_ | refine LeO.bind ?_ (fun _ => ?_)
theorem endonymref3_Join.mono : ∀ a0 k, LeO (endonymref3_Join.f k a0) (endonymref3_Join.f (k + 1) a0) := by
 intro a0 k
 have ih0 := endonymref3_Join.mono_l k
 unfold endonymref3_Join.f
 repeat' first | (with_reducible first | apply ih0 | apply LeO.refl | apply LeO.none | refine LeO.ite ?_ ?_ | refine LeO.bind ?_ (fun _ => ?_)) | apply LeO.none | refine LeO.ite ?_ ?_ | refine LeO.bind ?_ (fun _ => ?_)
theorem endonymref3_Join.calls (k : Nat) (A0 : Option Addr) (c0 : Nat) (l0 : List (List Int)) (r : List Int) (w : World) (hr0 : Kd.C (Kd.slice 21 (Kd.int .i32)) w A0 l0.length l0) (hc0 : l0.length ≤ c0) (h : endonymref3_Join.f k l0 = some r) :
  Calls Try.prog 22 #[.slice A0 l0.length c0] w fun e w' => ∃ v0_ : Value, e = .returned (v0_) ∧ Kd.R (Kd.int .i32) 21 w' w.heap.size (fun _ => True) v0_ r ∧ Below w.heap.size w w' := by
 have HR0 := Aside0.mk hr0
 have HC0 := Aside0.mk hc0
 clear hr0 hc0
 have HB := Aside0.mk (Below.refl w.heap.size w)
 have H : (endonymref3_Join.l0 k l0 ([] : List Int) 0) = some r := h
 clear h
 have H' := Aside0.mk H
 clear H
 go_enter Try.func22, Try.ntmps22
 go_wp2
 go_loopg [3, 4] k (fun kq v3 v4 w' => ∃ (x3_1 : List Int) (x4_1 : Int), v4 = .int .i64 x4_1 ∧ Aside0 (endonymref3_Join.l0 kq l0 x3_1 x4_1 = some r) ∧ Aside0 (kq ≤ k) ∧ Aside0 (Kd.R (Kd.int .i32) 21 w' w.heap.size (fun _ => True) v3 x3_1) ∧ Aside0 (Below w.heap.size w w'))
 case atStart => exact ⟨(([] : List Int)), (0), sqE, H', ⟨Nat.le_refl _⟩, ⟨by first | exact Kd.R_nil _ _ _ _ _ | exact Kd.N_nil _ _ _ _ _ | exact Kd.V_nil _ _ _ _ _ | exact Kd.Q_nil _ _ _ _ _ | exact Kd.S_nil _ _ _ _ _⟩, ⟨sqB⟩⟩
 case round =>
  clear H'
  obtain ⟨x3_1, x4_1, rfl, HA, HK1, HO_3, HB⟩ := hrel
  cases gk with
  | zero => exact absurd HA.out (by simp [endonymref3_Join.l0])
  | succ k1 =>
   have H := HA.out
   clear HA
   simp only [endonymref3_Join.l0] at H
   by_cases c2 : x4_1 < (l0.length : Int)
   case neg =>
    rw [if_neg c2] at H
    have c2b0 := decide_eq_false c2
    clear c2
    obtain rfl := Option.some.inj H
    go_wp2
    go_ret
    exact ⟨_, sqE', sqR HO_3.out, sqB⟩
   rw [if_pos c2] at H
   have c2b0 := decide_eq_true c2
   clear c2
   by_cases c3 : x4_1 > 0
   ·rw [if_pos c3] at H
    have c3b0 := decide_eq_true c3
    clear c3
    by_cases c4 : x3_1.length < 35184372088832
    case neg => rw [if_neg c4] at H; exact absurd H (by simp)
    rw [if_pos c4] at H
    have LMc4 := Aside0.mk c4
    clear c4
    obtain ⟨y192, hy192⟩ : ∃ y_ : List Int, y_ = (x3_1 ++ [46]) := ⟨_, rfl⟩
    replace H : (if 0 ≤ x4_1 then (if y192.length + (rd_L1 l0 x4_1).length < 35184372088832 then (endonymref3_Join.l0 k1 l0 (y192 ++ (rd_L1 l0 x4_1)) (wrap64 (x4_1 + 1))) else (none)) else (none)) = some r := by first | (rw [hy192]; with_reducible exact H) | (have H2_ := (Option.bind_some _ _).symm.trans H; rw [hy192]; with_reducible exact H2_) | (have H2_ := (Option.bind_some _ _).symm.trans H; with_reducible exact H2_) | with_reducible exact H | (rw [hy192]; exact H) | exact H
    have Ny192 := Aside0.mk hy192
    clear hy192
    by_cases c5 : 0 ≤ x4_1
    case neg => rw [if_neg c5] at H; exact absurd H (by simp)
    rw [if_pos c5] at H
    have c5b0 := decide_eq_true c5
    clear c5
    by_cases c6 : y192.length + (rd_L1 l0 x4_1).length < 35184372088832
    case neg => rw [if_neg c6] at H; exact absurd H (by simp)
    rw [if_pos c6] at H
    have LMc6 := Aside0.mk c6
    clear c6
    obtain ⟨y196, hy196⟩ : ∃ y_ : List Int, y_ = (y192 ++ (rd_L1 l0 x4_1)) := ⟨_, rfl⟩
    replace H : (endonymref3_Join.l0 k1 l0 y196 (wrap64 (x4_1 + 1))) = some r := by first | (rw [hy196]; with_reducible exact H) | (have H2_ := (Option.bind_some _ _).symm.trans H; rw [hy196]; with_reducible exact H2_) | (have H2_ := (Option.bind_some _ _).symm.trans H; with_reducible exact H2_) | with_reducible exact H | (rw [hy196]; exact H) | exact H
    have Ny196 := Aside0.mk hy196
    clear hy196
    have H' := Aside0.mk H
    clear H
    go_wp2_with (first | ((with_reducible refine gate_builtin (b := .append) (xs := #[.tmp 13, .tmp 14]) rfl ?_); at_builtin; refine Kd.R_append (Kd.int .i32) (w0 := w) w.heap.size rfl (.tmp 13) (.tmp 14) 22 21 (.int .i32 0) 4 rfl Try.underlying22 info21 rfl (by decide) (by omega) u3 x3_1 46 [.int .i32 46] (fun _ => True) (fun _ => False) rfl rfl ?aP (fun _ hk => hk.elim) ?aF ?aO ?aB ?aS ?aL ?_; (case aP => exact rfl); (case aB => exact sqB); (case aF => exact (fun _ _ => trivial)); (case aO => exact (sqR HO_3.out)); (case aS => exact (below_size sqB)); (case aL => have := LMc4.out; omega); intro v193 w7 ho hb hg hat; rw [← Ny192.out] at ho; have n0_ := Aside0.mk (hb); have n1_ := Aside0.mk (ho); clear HB; clear HO_3; have HB := n0_; have HO194 := n1_; clear n0_ n1_; clear ho hb hg hat; have p195 : 0 ≤ (x4_1 : Int) := sqD; have q195 : x4_1 < (l0.length : Int) := sqD; obtain ⟨ad195, A195_0, c195_0, e195, hx195_0, hl195_0, hi195_0⟩ := at_L1 HR0.out x4_1 p195 q195; cases e195; replace hx195_0 := (HB.out.cell (World.block_lt_of_cell? w _ hx195_0)).trans hx195_0; have HR195_0 := Aside0.mk hi195_0; have HC195_0 := Aside0.mk hl195_0; clear hi195_0 hl195_0; replace p195 := eq_true p195; replace q195 := eq_true q195) | ((with_reducible refine gate_builtin (b := .append) (xs := #[.tmp 16, .tmp 20]) rfl ?_); at_builtin; refine Kd.R_append_rows (Kd.int .i32) (w0 := w) w.heap.size rfl (.tmp 16) (.tmp 20) 22 21 (.int .i32 0) 4 rfl Try.underlying22 info21 rfl (by decide) (by omega) v193 y192 (rd_L1 l0 x4_1) _ _ _ (fun _ => True) (fun _ => False) rfl rfl ?aO ?aR (fun _ _ h => h) (fun _ h => h.elim) ?aF ?aB ?aS ?aL ?_; (case aR => repeat (first | exact (Kd.C_below HR195_0.out HB.out) | (with_reducible refine Kd.C_alloc ?_ _) | (with_reducible refine Kd.C_drewN ?_ _) | (with_reducible refine Kd.C_drew ?_))); (case aB => exact sqB); (case aF => exact (fun _ _ => trivial)); (case aO => exact (sqR HO194.out)); (case aS => exact (below_size sqB)); (case aL => have := LMc6.out; omega); intro v197 w8 ho hb hg hat; rw [← Ny196.out] at ho; have n0_ := Aside0.mk (hb); have n1_ := Aside0.mk (ho); clear HB; clear HO194; have HB := n0_; have HO198 := n1_; clear n0_ n1_; clear ho hb hg hat))
    go_roundg k1
    case measure => have := HK1.out; omega
    case rel => exact ⟨(y196), (wrap64 (x4_1 + 1)), sqE, H', ⟨by have := HK1.out; omega⟩, ⟨sqR HO198.out⟩, ⟨sqB⟩⟩
   rw [if_neg c3] at H
   have c3b0 := decide_eq_false c3
   clear c3
   by_cases c9 : 0 ≤ x4_1
   case neg => rw [if_neg c9] at H; exact absurd H (by simp)
   rw [if_pos c9] at H
   have c9b0 := decide_eq_true c9
   clear c9
   by_cases c10 : x3_1.length + (rd_L1 l0 x4_1).length < 35184372088832
   case neg => rw [if_neg c10] at H; exact absurd H (by simp)
   rw [if_pos c10] at H
   have LMc10 := Aside0.mk c10
   clear c10
   obtain ⟨y200, hy200⟩ : ∃ y_ : List Int, y_ = (x3_1 ++ (rd_L1 l0 x4_1)) := ⟨_, rfl⟩
   replace H : (endonymref3_Join.l0 k1 l0 y200 (wrap64 (x4_1 + 1))) = some r := by first | (rw [hy200]; with_reducible exact H) | (have H2_ := (Option.bind_some _ _).symm.trans H; rw [hy200]; with_reducible exact H2_) | (have H2_ := (Option.bind_some _ _).symm.trans H; with_reducible exact H2_) | with_reducible exact H | (rw [hy200]; exact H) | exact H
   have Ny200 := Aside0.mk hy200
   clear hy200
   have H' := Aside0.mk H
   clear H
   have p199 : 0 ≤ (x4_1 : Int) := sqD
   have q199 : x4_1 < (l0.length : Int) := sqD
   obtain ⟨ad199, A199_0, c199_0, e199, hx199_0, hl199_0, hi199_0⟩ := at_L1 HR0.out x4_1 p199 q199
   cases e199
   replace hx199_0 := (HB.out.cell (World.block_lt_of_cell? w _ hx199_0)).trans hx199_0
   have HR199_0 := Aside0.mk hi199_0
   have HC199_0 := Aside0.mk hl199_0
   clear hi199_0 hl199_0
   replace p199 := eq_true p199
   replace q199 := eq_true q199
   go_wp2_with (first | ((with_reducible refine gate_builtin (b := .append) (xs := #[.tmp 16, .tmp 20]) rfl ?_); at_builtin; refine Kd.R_append_rows (Kd.int .i32) (w0 := w) w.heap.size rfl (.tmp 16) (.tmp 20) 22 21 (.int .i32 0) 4 rfl Try.underlying22 info21 rfl (by decide) (by omega) u3 x3_1 (rd_L1 l0 x4_1) _ _ _ (fun _ => True) (fun _ => False) rfl rfl ?aO ?aR (fun _ _ h => h) (fun _ h => h.elim) ?aF ?aB ?aS ?aL ?_; (case aR => repeat (first | exact (Kd.C_below HR199_0.out HB.out) | (with_reducible refine Kd.C_alloc ?_ _) | (with_reducible refine Kd.C_drewN ?_ _) | (with_reducible refine Kd.C_drew ?_))); (case aB => exact sqB); (case aF => exact (fun _ _ => trivial)); (case aO => exact (sqR HO_3.out)); (case aS => exact (below_size sqB)); (case aL => have := LMc10.out; omega); intro v201 w11 ho hb hg hat; rw [← Ny200.out] at ho; have n0_ := Aside0.mk (hb); have n1_ := Aside0.mk (ho); clear HB; clear HO_3; have HB := n0_; have HO202 := n1_; clear n0_ n1_; clear ho hb hg hat))
   go_roundg k1
   case measure => have := HK1.out; omega
   case rel => exact ⟨(y200), (wrap64 (x4_1 + 1)), sqE, H', ⟨by have := HK1.out; omega⟩, ⟨sqR HO202.out⟩, ⟨sqB⟩⟩
end Go.Proofs.Ytplnakmpogepmaa.A
