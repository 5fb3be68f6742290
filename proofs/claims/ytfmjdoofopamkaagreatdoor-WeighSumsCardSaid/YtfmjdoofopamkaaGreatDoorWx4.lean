import Derived.Test.YtfmjdoofopamkaaGreatDoorWx0
import Derived.Test.YtfmjdoofopamkaaGreatDoorWx1
import Derived.Test.YtfmjdoofopamkaaGreatDoorWx3
namespace Go.Proofs.YtfmjdoofopamkaaGreatDoor.W
open Go.RowKit Go.Proofs.YtfmjdoofopamkaaGreatDoorW.PrintWords Go.Proofs.YtfmjdoofopamkaaGreatDoorW.PrintLast Go.Proofs.YtfmjdoofopamkaaGreatDoorW.PrintMore
set_option maxHeartbeats 8000000
set_option maxRecDepth 100000
attribute [local go_sem] max2_int min2_int max_two min_two max_three min_three max_four min_four
set_option linter.unusedVariables false
set_option linter.unusedSimpArgs false
def weigh_nat_compare.l0 : Nat → List Int → List Int → Int → Option (Int)
 | 0, _, _, _ => none
 | k + 1, x0, x1, x5 => if x5 ≥ 0 then (if 0 ≤ x5 then (if x5 < (x0.length : Int) then (if x5 < (x1.length : Int) then (if (rd x0 x5) = (rd x1 x5) then (weigh_nat_compare.l0 k x0 x1 (wrap64 (x5 - 1))) else (if (rd x0 x5) < (rd x1 x5) then (some (-1)) else (some 1))) else (none)) else (none)) else (none)) else (some 0)
def weigh_nat_compare.f (k : Nat) (l0 : List Int) (l1 : List Int) : Option (Int) := if (l0.length : Int) = (l1.length : Int) then (weigh_nat_compare.l0 k l0 l1 (wrap64 ((l0.length : Int) - 1))) else (some (wrap64 ((l0.length : Int) - (l1.length : Int))))
theorem weigh_nat_compare.mono_l : ∀ k, (∀ y0 y1 y2, LeO (weigh_nat_compare.l0 k y0 y1 y2) (weigh_nat_compare.l0 (k + 1) y0 y1 y2))
 | 0 => fun _ _ _ r h => by simp [weigh_nat_compare.l0] at h
 | k + 1 => by
  have ih0 := weigh_nat_compare.mono_l k
  intro y0 y1 y2
  unfold weigh_nat_compare.l0
  repeat' first | (with_reducible first | apply ih0 | apply LeO.refl | apply LeO.none | refine LeO.ite ?_ ?_ | refine LeO.bind ?_ (fun _ => ?_)) | apply LeO.none | refine LeO.ite ?_ ?_ | refine LeO.bind ?_ (fun _ => ?_)
theorem weigh_nat_compare.mono : ∀ a0 a1 k, LeO (weigh_nat_compare.f k a0 a1) (weigh_nat_compare.f (k + 1) a0 a1) := by
 intro a0 a1 k
 have ih0 := weigh_nat_compare.mono_l k
 unfold weigh_nat_compare.f
 repeat' first | (with_reducible first | apply ih0 | apply LeO.refl | apply LeO.none | refine LeO.ite ?_ ?_ | refine LeO.bind ?_ (fun _ => ?_)) | apply LeO.none | refine LeO.ite ?_ ?_ | refine LeO.bind ?_ (fun _ => ?_)
theorem weigh_nat_compare.calls (k : Nat) (A0 : Option Addr) (c0 : Nat) (l0 : List Int) (A1 : Option Addr) (c1 : Nat) (l1 : List Int) (r : Int) (w : World) (hr0 : Kd.C (Kd.int .u32) w A0 l0.length l0) (hc0 : l0.length ≤ c0) (hr1 : Kd.C (Kd.int .u32) w A1 l1.length l1) (hc1 : l1.length ≤ c1) (h : weigh_nat_compare.f k l0 l1 = some r) :
  Calls Tryz.prog 53 #[.slice A0 l0.length c0, .slice A1 l1.length c1] w fun e w' => e = .returned (.int .i64 r) ∧ Drawn0 w w' := by
 have HR0 := Aside0.mk hr0
 have HC0 := Aside0.mk hc0
 clear hr0 hc0
 have HR1 := Aside0.mk hr1
 have HC1 := Aside0.mk hc1
 clear hr1 hc1
 have H : (if (l0.length : Int) = (l1.length : Int) then (weigh_nat_compare.l0 k l0 l1 (wrap64 ((l0.length : Int) - 1))) else (some (wrap64 ((l0.length : Int) - (l1.length : Int))))) = some r := h
 clear h
 by_cases c3 : (l0.length : Int) = (l1.length : Int)
 case neg =>
  rw [if_neg c3] at H
  have c3b0 := beq_eq_false_iff_ne.mpr c3
  have c3b1 := bne_iff_ne.mpr c3
  have c3b2 : (l0.length == l1.length) = false := by first | simpa using c3 | (simp at c3 ⊢; omega)
  obtain rfl := Option.some.inj H
  go_enter Tryz.func53, Tryz.ntmps53
  go_wp2
  repeat (go_quiet (fail); try go_wp2)
  go_ret
  exact ⟨sqE, sqW⟩
 rw [if_pos c3] at H
 have c3b0 := beq_iff_eq.mpr c3
 have c3b1 := bne_eq_false_iff_eq.mpr c3
 have c3b2 : (l0.length == l1.length) = true := by first | simpa using c3 | (simp at c3 ⊢; omega)
 clear c3
 have H' := Aside0.mk H
 clear H
 go_enter Tryz.func53, Tryz.ntmps53
 go_wp2
 repeat (go_quiet (fail); try go_wp2)
 go_loopg [5] k (fun kq v5 w' => ∃ (x5_1 : Int), v5 = .int .i64 x5_1 ∧ Aside0 (weigh_nat_compare.l0 kq l0 l1 x5_1 = some r) ∧ Aside0 (kq ≤ k) ∧ Drawn0 w w')
 case atStart => exact ⟨(wrap64 ((l0.length : Int) - 1)), sqE, H', ⟨Nat.le_refl _⟩, sqW⟩
 case round =>
  clear H'
  try clear c1
  try clear p2
  try clear c3
  try clear c3b0
  try clear c3b1
  try clear c3b2
  obtain ⟨x5_1, rfl, HA, HK1, ⟨m1, rfl⟩⟩ := hrel
  cases gk with
  | zero => exact absurd HA.out (by simp [weigh_nat_compare.l0])
  | succ k1 =>
   have H := HA.out
   clear HA
   simp only [weigh_nat_compare.l0] at H
   by_cases c4 : x5_1 ≥ 0
   case neg =>
    rw [if_neg c4] at H
    have c4b0 := decide_eq_false c4
    clear c4
    obtain rfl := Option.some.inj H
    go_wp2
    repeat (go_quiet (fail); try go_wp2)
    go_ret
    exact ⟨sqE, sqW⟩
   rw [if_pos c4] at H
   have c4b0 := decide_eq_true c4
   clear c4
   by_cases c5 : 0 ≤ x5_1
   case neg => rw [if_neg c5] at H; exact absurd H (by simp)
   rw [if_pos c5] at H
   have c5b0 := decide_eq_true c5
   clear c5
   by_cases c6 : x5_1 < (l0.length : Int)
   case neg => rw [if_neg c6] at H; exact absurd H (by simp)
   rw [if_pos c6] at H
   have c6b0 := decide_eq_true c6
   clear c6
   by_cases c7 : x5_1 < (l1.length : Int)
   case neg => rw [if_neg c7] at H; exact absurd H (by simp)
   rw [if_pos c7] at H
   have c7b0 := decide_eq_true c7
   clear c7
   by_cases c8 : (rd l0 x5_1) = (rd l1 x5_1)
   ·rw [if_pos c8] at H
    have c8b0 := beq_iff_eq.mpr c8
    have c8b1 := bne_eq_false_iff_eq.mpr c8
    clear c8
    have H' := Aside0.mk H
    clear H
    have p123 : 0 ≤ (x5_1 : Int) := sqD
    have q123 : x5_1 < (l0.length : Int) := sqD
    obtain ⟨ad123, e123, hx123_0⟩ := Kd.at_int HR0.out x5_1 p123 q123
    cases e123
    replace p123 := eq_true p123
    replace q123 := eq_true q123
    have p124 : 0 ≤ (x5_1 : Int) := sqD
    have q124 : x5_1 < (l1.length : Int) := sqD
    obtain ⟨ad124, e124, hx124_0⟩ := Kd.at_int HR1.out x5_1 p124 q124
    cases e124
    replace p124 := eq_true p124
    replace q124 := eq_true q124
    go_wp2
    repeat (go_quiet (fail); try go_wp2)
    go_roundg k1
    case measure => have := HK1.out; omega
    case rel => exact ⟨(wrap64 (x5_1 - 1)), sqE, H', ⟨by have := HK1.out; omega⟩, sqW⟩
   rw [if_neg c8] at H
   have c8b0 := beq_eq_false_iff_ne.mpr c8
   have c8b1 := bne_iff_ne.mpr c8
   by_cases c9 : (rd l0 x5_1) < (rd l1 x5_1)
   ·rw [if_pos c9] at H
    have c9b0 := decide_eq_true c9
    clear c9
    obtain rfl := Option.some.inj H
    have p123 : 0 ≤ (x5_1 : Int) := sqD
    have q123 : x5_1 < (l0.length : Int) := sqD
    obtain ⟨ad123, e123, hx123_0⟩ := Kd.at_int HR0.out x5_1 p123 q123
    cases e123
    replace p123 := eq_true p123
    replace q123 := eq_true q123
    have p124 : 0 ≤ (x5_1 : Int) := sqD
    have q124 : x5_1 < (l1.length : Int) := sqD
    obtain ⟨ad124, e124, hx124_0⟩ := Kd.at_int HR1.out x5_1 p124 q124
    cases e124
    replace p124 := eq_true p124
    replace q124 := eq_true q124
    have p125 : 0 ≤ (x5_1 : Int) := sqD
    have q125 : x5_1 < (l0.length : Int) := sqD
    obtain ⟨ad125, e125, hx125_0⟩ := Kd.at_int HR0.out x5_1 p125 q125
    obtain rfl : ad123 = ad125 := (by injection e125)
    replace p125 := eq_true p125
    replace q125 := eq_true q125
    have p126 : 0 ≤ (x5_1 : Int) := sqD
    have q126 : x5_1 < (l1.length : Int) := sqD
    obtain ⟨ad126, e126, hx126_0⟩ := Kd.at_int HR1.out x5_1 p126 q126
    obtain rfl : ad124 = ad126 := (by injection e126)
    replace p126 := eq_true p126
    replace q126 := eq_true q126
    go_wp2
    repeat (go_quiet (fail); try go_wp2)
    go_ret
    exact ⟨sqE, sqW⟩
   rw [if_neg c9] at H
   have c9b0 := decide_eq_false c9
   clear c9
   obtain rfl := Option.some.inj H
   have p123 : 0 ≤ (x5_1 : Int) := sqD
   have q123 : x5_1 < (l0.length : Int) := sqD
   obtain ⟨ad123, e123, hx123_0⟩ := Kd.at_int HR0.out x5_1 p123 q123
   cases e123
   replace p123 := eq_true p123
   replace q123 := eq_true q123
   have p124 : 0 ≤ (x5_1 : Int) := sqD
   have q124 : x5_1 < (l1.length : Int) := sqD
   obtain ⟨ad124, e124, hx124_0⟩ := Kd.at_int HR1.out x5_1 p124 q124
   cases e124
   replace p124 := eq_true p124
   replace q124 := eq_true q124
   have p125 : 0 ≤ (x5_1 : Int) := sqD
   have q125 : x5_1 < (l0.length : Int) := sqD
   obtain ⟨ad125, e125, hx125_0⟩ := Kd.at_int HR0.out x5_1 p125 q125
   obtain rfl : ad123 = ad125 := (by injection e125)
   replace p125 := eq_true p125
   replace q125 := eq_true q125
   have p126 : 0 ≤ (x5_1 : Int) := sqD
   have q126 : x5_1 < (l1.length : Int) := sqD
   obtain ⟨ad126, e126, hx126_0⟩ := Kd.at_int HR1.out x5_1 p126 q126
   obtain rfl : ad124 = ad126 := (by injection e126)
   replace p126 := eq_true p126
   replace q126 := eq_true q126
   go_wp2
   repeat (go_quiet (fail); try go_wp2)
   go_ret
   exact ⟨sqE, sqW⟩
def weigh_nat_less.l0 : Nat → List Int → List Int → Int → Int → Int → Option (List Int)
 | 0, _, _, _, _, _ => none
 | k + 1, x1, x5, x6, x12, x13 => if x13 < x12 then (if 0 ≤ x13 then (if x13 < (x5.length : Int) then (if x13 < (x1.length : Int) then (weigh_nat_less.l0 k x1 (x5.set (x13 : Int).toNat ((IntKind.u64.wrap ((IntKind.u64.wrap ((IntKind.u64.wrap (rd x5 x13)) - x6)) - (IntKind.u64.wrap (rd x1 x13)))) % 4294967296)) ((IntKind.u64.wrap ((IntKind.u64.wrap ((IntKind.u64.wrap (rd x5 x13)) - x6)) - (IntKind.u64.wrap (rd x1 x13)))) / 9223372036854775808) x12 (wrap64 (x13 + 1))) else (weigh_nat_less.l0 k x1 (x5.set (x13 : Int).toNat ((IntKind.u64.wrap ((IntKind.u64.wrap (rd x5 x13)) - x6)) % 4294967296)) ((IntKind.u64.wrap ((IntKind.u64.wrap (rd x5 x13)) - x6)) / 9223372036854775808) x12 (wrap64 (x13 + 1)))) else (none)) else (none)) else ((weigh_trim.f k x5).bind fun t134 => (some t134))
def weigh_nat_less.f (k : Nat) (l0 : List Int) (l1 : List Int) : Option (List Int) := if ([] : List Int).length + l0.length < 35184372088832 then ((some (([] : List Int) ++ l0 : List Int)).bind fun y127 => (weigh_nat_less.l0 k l1 y127 0 (y127.length : Int) 0)) else (none)
theorem weigh_nat_less.mono_l : ∀ k, (∀ y0 y1 y2 y3 y4, LeO (weigh_nat_less.l0 k y0 y1 y2 y3 y4) (weigh_nat_less.l0 (k + 1) y0 y1 y2 y3 y4))
 | 0 => fun _ _ _ _ _ r h => by simp [weigh_nat_less.l0] at h
 | k + 1 => by
  have ih0 := weigh_nat_less.mono_l k
  intro y0 y1 y2 y3 y4
  unfold weigh_nat_less.l0
  repeat' first | (with_reducible first | apply ih0 | apply weigh_trim.mono | apply LeO.refl | apply LeO.none | refine LeO.ite ?_ ?_ | refine LeO.bind ?_ (fun _ => ?_)) | apply LeO.none | refine LeO.ite ?_ ?_ | refine LeO.bind ?_ (fun _ => ?_)
theorem weigh_nat_less.mono : ∀ a0 a1 k, LeO (weigh_nat_less.f k a0 a1) (weigh_nat_less.f (k + 1) a0 a1) := by
 intro a0 a1 k
 have ih0 := weigh_nat_less.mono_l k
 unfold weigh_nat_less.f
 repeat' first | (with_reducible first | apply ih0 | apply weigh_trim.mono | apply LeO.refl | apply LeO.none | refine LeO.ite ?_ ?_ | refine LeO.bind ?_ (fun _ => ?_)) | apply LeO.none | refine LeO.ite ?_ ?_ | refine LeO.bind ?_ (fun _ => ?_)
theorem weigh_nat_less.calls (k : Nat) (A0 : Option Addr) (c0 : Nat) (l0 : List Int) (A1 : Option Addr) (c1 : Nat) (l1 : List Int) (r : List Int) (w : World) (hr0 : Kd.C (Kd.int .u32) w A0 l0.length l0) (hc0 : l0.length ≤ c0) (hr1 : Kd.C (Kd.int .u32) w A1 l1.length l1) (hc1 : l1.length ≤ c1) (h : weigh_nat_less.f k l0 l1 = some r) :
  Calls Tryz.prog 83 #[.slice A0 l0.length c0, .slice A1 l1.length c1] w fun e w' => ∃ v0_ : Value, e = .returned (v0_) ∧ Kd.V (Kd.int .u32) 83 w' w.heap.size (fun k_ => (w.heap.size ≤ k_)) v0_ r ∧ Below w.heap.size w w' := by
 have HR0 := Aside0.mk hr0
 have HC0 := Aside0.mk hc0
 clear hr0 hc0
 have HR1 := Aside0.mk hr1
 have HC1 := Aside0.mk hc1
 clear hr1 hc1
 have HB := Aside0.mk (Below.refl w.heap.size w)
 have H : (if ([] : List Int).length + l0.length < 35184372088832 then ((some (([] : List Int) ++ l0 : List Int)).bind fun y127 => (weigh_nat_less.l0 k l1 y127 0 (y127.length : Int) 0)) else (none)) = some r := h
 clear h
 by_cases c3 : ([] : List Int).length + l0.length < 35184372088832
 case neg => rw [if_neg c3] at H; exact absurd H (by simp)
 rw [if_pos c3] at H
 have LMc3 := Aside0.mk c3
 clear c3
 obtain ⟨y127, hy127⟩ : ∃ y_ : List Int, y_ = (([] : List Int) ++ l0) := ⟨_, rfl⟩
 replace H : (weigh_nat_less.l0 k l1 y127 0 (y127.length : Int) 0) = some r := by first | (rw [hy127]; with_reducible exact H) | (have H2_ := (Option.bind_some _ _).symm.trans H; rw [hy127]; with_reducible exact H2_) | (have H2_ := (Option.bind_some _ _).symm.trans H; with_reducible exact H2_) | with_reducible exact H | (rw [hy127]; exact H) | exact H
 have Ny127 := Aside0.mk hy127
 clear hy127
 have H' := Aside0.mk H
 clear H
 go_enter Tryz.func83, Tryz.ntmps83
 go_wp2_with (first | ((with_reducible refine gate_builtin (b := .append) (xs := #[.const (.slice none 0 0), .tmp 9]) rfl ?_); at_builtin; refine Kd.R_append_rows (Kd.int .u32) (w0 := w) w.heap.size rfl (.const (.slice none 0 0)) (.tmp 9) 53 83 (.int .u32 0) 4 rfl Tryz.underlying53 info83 rfl (by decide) (by omega) (.slice none 0 0) ([] : List Int) l0 _ _ _ (fun k_ => (w.heap.size ≤ k_)) (fun _ => False) rfl rfl ?aO ?aR (fun _ _ h => h) (fun _ h => h.elim) ?aF ?aB ?aS ?aL ?_; (case aR => repeat (first | exact HR0.out | (with_reducible refine Kd.C_alloc ?_ _) | (with_reducible refine Kd.C_drewN ?_ _) | (with_reducible refine Kd.C_drew ?_))); (case aB => exact sqB); (case aF => exact (fun k_ hk => (Nat.le_trans (below_size sqB) hk))); (case aO => exact ((Kd.R_nil _ _ _ _ (fun k_ => (w.heap.size ≤ k_))))); (case aS => exact (below_size sqB)); (case aL => have := LMc3.out; omega); intro v128 w4 ho hb hg hat; rw [← Ny127.out] at ho; have n0_ := Aside0.mk (hb); have n1_ := Aside0.mk (ho); clear HB; have HB := n0_; have HO129 := n1_; clear n0_ n1_; clear ho hb hg hat; obtain ⟨Ao5, co5, eo5⟩ := Kd.R_slice HO129.out; subst eo5))
 try simp only [Act.put, List.setIfInBounds_toArray, List.set_cons_zero, List.set_cons_succ]
 go_loopg [6, 13] k (fun kq v6 v13 w' => ∃ (x5_1 : List Int) (x6_1 : Int) (x13_1 : Int), v6 = .int .u64 x6_1 ∧ v13 = .int .i64 x13_1 ∧ Aside0 (weigh_nat_less.l0 kq l1 x5_1 x6_1 (y127.length : Int) x13_1 = some r) ∧ Aside0 (kq ≤ k) ∧ Aside0 (Kd.R (Kd.int .u32) 83 w' w.heap.size (fun k_ => (w.heap.size ≤ k_)) (.slice Ao5 y127.length co5) x5_1) ∧ Aside0 (Below w.heap.size w w'))
 case atStart => exact ⟨(y127), (0), (0), sqE, sqE, H', ⟨Nat.le_refl _⟩, ⟨sqR HO129.out⟩, ⟨sqB⟩⟩
 case round =>
  clear H'
  try clear c1
  try clear p2
  try clear c3
  obtain ⟨x5_1, x6_1, x13_1, rfl, rfl, HA, HK1, HO_5, HB⟩ := hrel
  have hl5_1 := (Kd.R_reads' HO_5.out).1
  rw [hl5_1] at HO_5
  (try simp only [hl5_1])
  cases gk with
  | zero => exact absurd HA.out (by simp [weigh_nat_less.l0])
  | succ k1 =>
   have H := HA.out
   clear HA
   simp only [weigh_nat_less.l0] at H
   by_cases c6 : x13_1 < (y127.length : Int)
   case neg =>
    rw [if_neg c6] at H
    have c6b0 := decide_eq_false c6
    (try (have c6b9 := c6b0; simp only [hl5_1] at c6b9))
    clear c6
    obtain ⟨t134, A16, H⟩ := sqO H
    try dsimp only at H
    obtain rfl := Option.some.inj H
    go_wp2_with (first | ((with_reducible refine gate_callee (f := 57) rfl ?_); refine goesL_ (some 43) rfl rfl Tryz.func57 (by kernel_rfl) rfl #[.slice Ao5 x5_1.length co5] rfl sqA ?_; (with_reducible refine (weigh_trim.calls k1 (fun k_ => some k_ = (.slice Ao5 x5_1.length co5 : Value).ownBlock) _ _ x5_1 t134 _ ?side1 A16.out).mono ?_); (case side1 => exact Kd.R_V (Kd.R_tight rfl (HO_5.out))); rintro e w17 ⟨v135, rfl, ho0, hb⟩; refine ⟨_, rfl, ?_⟩; have n0_ := Aside0.mk (Kd.R_below (sqR HO_5.out) hb); have n1_ := Aside0.mk (Kd.V_lower (Kd.V_mono (ok' := fun k_ => (w.heap.size ≤ k_)) ho0 (fun k_ hk_ => Or.elim hk_ (fun hs_ => ((HO_5.out).1 k_ hs_.symm)) (fun hn_ => (Nat.le_trans (below_size sqB) hn_)))) (below_size sqB)); have n2_ := Aside0.mk (below_step sqB hb); clear HO_5; clear HB; have HO_5 := n0_; have HO136 := n1_; have HB := n2_; clear n0_ n1_ n2_; (try clear hb); (try clear hb2); (try clear hk); (try clear hi); (try clear ho0)))
    go_ret
    exact ⟨_, sqE', sqV HO136.out, sqB⟩
   rw [if_pos c6] at H
   have c6b0 := decide_eq_true c6
   clear c6
   by_cases c7 : 0 ≤ x13_1
   case neg => rw [if_neg c7] at H; exact absurd H (by simp)
   rw [if_pos c7] at H
   have c7b0 := decide_eq_true c7
   clear c7
   by_cases c8 : x13_1 < (x5_1.length : Int)
   case neg => rw [if_neg c8] at H; exact absurd H (by simp)
   rw [if_pos c8] at H
   have c8b0 := decide_eq_true c8
   clear c8
   by_cases c9 : x13_1 < (l1.length : Int)
   case neg =>
    rw [if_neg c9] at H
    have c9b0 := decide_eq_false c9
    clear c9
    obtain ⟨y133, hy133⟩ : ∃ y_ : List Int, y_ = (x5_1.set (x13_1 : Int).toNat ((IntKind.u64.wrap ((IntKind.u64.wrap (rd x5_1 x13_1)) - x6_1)) % 4294967296)) := ⟨_, rfl⟩
    replace H : (weigh_nat_less.l0 k1 l1 y133 ((IntKind.u64.wrap ((IntKind.u64.wrap (rd x5_1 x13_1)) - x6_1)) / 9223372036854775808) (y127.length : Int) (wrap64 (x13_1 + 1))) = some r := by first | (rw [hy133]; with_reducible exact H) | (have H2_ := (Option.bind_some _ _).symm.trans H; rw [hy133]; with_reducible exact H2_) | (have H2_ := (Option.bind_some _ _).symm.trans H; with_reducible exact H2_) | with_reducible exact H | (rw [hy133]; exact H) | exact H
    have Ny133 := Aside0.mk hy133
    clear hy133
    have H' := Aside0.mk H
    clear H
    have p130 : 0 ≤ (x13_1 : Int) := sqD
    have q130 : x13_1 < (x5_1.length : Int) := sqD
    obtain ⟨ad130, e130, hx130_0⟩ := Kd.at_int (Kd.R_reads' HO_5.out).2.2 x13_1 p130 q130
    cases e130
    replace p130 := eq_true p130
    replace q130 := eq_true q130
    have p13 : 0 ≤ (x13_1 : Int) := sqD
    have q13 : (x13_1 : Int) < ((x5_1.length : Int) : Int) := sqD
    obtain ⟨go13, co13, eo13, gb13, gl13, cl13, HG13⟩ := Kd.R_form HO_5.out (by omega)
    (first | cases eo13 | (injection eo13 with ea_ en_ ec_; (first | subst ea_ | (injection ea_ with ea_; subst ea_)); subst ec_; clear en_))
    have GB13 := Aside0.mk gb13
    have GG13 := Aside0.mk HG13
    clear gb13 gl13 HG13
    (first | simp only [add_plain] at hx130_0 | skip)
    obtain ⟨hx13_0, hf13_0⟩ := Kd.R_celln 0 HO_5.out (x13_1 : Int) p13 q13
    replace p13 := eq_true p13
    replace q13 := eq_true q13
    have HP14 := Kd.R_putg HO_5.out (x13_1 : Int) ((IntKind.u64.wrap ((IntKind.u64.wrap (rd x5_1 x13_1)) - x6_1)) % 4294967296)
    go_wp2_with (first | ((with_reducible refine gate_store (t := 83) (p := 38) rfl ?_); refine store_event (t := 83) (p := 38) (v := ?vo_w15) (w1 := (wr.setCell ⟨go13, (x13_1 : Int).toNat, none⟩ (.int .u32 ((IntKind.u64.wrap ((IntKind.u64.wrap (rd x5_1 x13_1)) - x6_1)) % 4294967296)))) ?hg ?ho ?hn ?hr ?_; (case ho => rfl); (case hg => rfl); (case hn => rfl); (case hr => first | (go_simp; done) | (go_simp; rfl)); intro w15 hw; have hg : wr.grownBy w15 (some go13) := (by rw [hw]; exact HP14.2); have hp_ : Kd.R (Kd.int .u32) 83 w15 w.heap.size (fun k_ => (w.heap.size ≤ k_)) (.slice (some ⟨go13, 0, none⟩) x5_1.length co5) y133 := (by rw [hw, Ny133.out]; exact HP14.1); clear HP14; have n0_ := Aside0.mk (hp_); have n1_ := Aside0.mk ((by rw [hw]; exact below_set (HB.out) GB13.out : Below w.heap.size w w15)); clear HO_5; clear HB; have HO_5 := n0_; have HB := n1_; clear n0_ n1_; clear hg hw hp_))
    (try simp only [← hl5_1])
    go_roundg k1
    case measure => have := HK1.out; omega
    case rel => exact ⟨(y133), ((IntKind.u64.wrap ((IntKind.u64.wrap (rd x5_1 x13_1)) - x6_1)) / 9223372036854775808), (wrap64 (x13_1 + 1)), sqE, sqE, H', ⟨by have := HK1.out; omega⟩, ⟨by (try simp only [hl5_1]); (with_reducible repeat (first | apply Kd.R_alloc | apply Kd.R_drewN | apply Kd.R_drew)); exact HO_5.out⟩, ⟨sqB⟩⟩
   rw [if_pos c9] at H
   have c9b0 := decide_eq_true c9
   clear c9
   obtain ⟨y132, hy132⟩ : ∃ y_ : List Int, y_ = (x5_1.set (x13_1 : Int).toNat ((IntKind.u64.wrap ((IntKind.u64.wrap ((IntKind.u64.wrap (rd x5_1 x13_1)) - x6_1)) - (IntKind.u64.wrap (rd l1 x13_1)))) % 4294967296)) := ⟨_, rfl⟩
   replace H : (weigh_nat_less.l0 k1 l1 y132 ((IntKind.u64.wrap ((IntKind.u64.wrap ((IntKind.u64.wrap (rd x5_1 x13_1)) - x6_1)) - (IntKind.u64.wrap (rd l1 x13_1)))) / 9223372036854775808) (y127.length : Int) (wrap64 (x13_1 + 1))) = some r := by first | (rw [hy132]; with_reducible exact H) | (have H2_ := (Option.bind_some _ _).symm.trans H; rw [hy132]; with_reducible exact H2_) | (have H2_ := (Option.bind_some _ _).symm.trans H; with_reducible exact H2_) | with_reducible exact H | (rw [hy132]; exact H) | exact H
   have Ny132 := Aside0.mk hy132
   clear hy132
   have H' := Aside0.mk H
   clear H
   have p130 : 0 ≤ (x13_1 : Int) := sqD
   have q130 : x13_1 < (x5_1.length : Int) := sqD
   obtain ⟨ad130, e130, hx130_0⟩ := Kd.at_int (Kd.R_reads' HO_5.out).2.2 x13_1 p130 q130
   cases e130
   replace p130 := eq_true p130
   replace q130 := eq_true q130
   have p131 : 0 ≤ (x13_1 : Int) := sqD
   have q131 : x13_1 < (l1.length : Int) := sqD
   obtain ⟨ad131, e131, hx131_0⟩ := Kd.at_int HR1.out x13_1 p131 q131
   cases e131
   replace hx131_0 := (HB.out.cell (World.block_lt_of_cell? w _ hx131_0)).trans hx131_0
   replace p131 := eq_true p131
   replace q131 := eq_true q131
   have p10 : 0 ≤ (x13_1 : Int) := sqD
   have q10 : (x13_1 : Int) < ((x5_1.length : Int) : Int) := sqD
   obtain ⟨go10, co10, eo10, gb10, gl10, cl10, HG10⟩ := Kd.R_form HO_5.out (by omega)
   (first | cases eo10 | (injection eo10 with ea_ en_ ec_; (first | subst ea_ | (injection ea_ with ea_; subst ea_)); subst ec_; clear en_))
   have GB10 := Aside0.mk gb10
   have GG10 := Aside0.mk HG10
   clear gb10 gl10 HG10
   (first | simp only [add_plain] at hx130_0 | skip)
   obtain ⟨hx10_0, hf10_0⟩ := Kd.R_celln 0 HO_5.out (x13_1 : Int) p10 q10
   replace p10 := eq_true p10
   replace q10 := eq_true q10
   have HP11 := Kd.R_putg HO_5.out (x13_1 : Int) ((IntKind.u64.wrap ((IntKind.u64.wrap ((IntKind.u64.wrap (rd x5_1 x13_1)) - x6_1)) - (IntKind.u64.wrap (rd l1 x13_1)))) % 4294967296)
   go_wp2_with (first | ((with_reducible refine gate_store (t := 83) (p := 38) rfl ?_); refine store_event (t := 83) (p := 38) (v := ?vo_w12) (w1 := (wr.setCell ⟨go10, (x13_1 : Int).toNat, none⟩ (.int .u32 ((IntKind.u64.wrap ((IntKind.u64.wrap ((IntKind.u64.wrap (rd x5_1 x13_1)) - x6_1)) - (IntKind.u64.wrap (rd l1 x13_1)))) % 4294967296)))) ?hg ?ho ?hn ?hr ?_; (case ho => rfl); (case hg => rfl); (case hn => rfl); (case hr => first | (go_simp; done) | (go_simp; rfl)); intro w12 hw; have hg : wr.grownBy w12 (some go10) := (by rw [hw]; exact HP11.2); have hp_ : Kd.R (Kd.int .u32) 83 w12 w.heap.size (fun k_ => (w.heap.size ≤ k_)) (.slice (some ⟨go10, 0, none⟩) x5_1.length co5) y132 := (by rw [hw, Ny132.out]; exact HP11.1); clear HP11; have n0_ := Aside0.mk (hp_); have n1_ := Aside0.mk ((by rw [hw]; exact below_set (HB.out) GB10.out : Below w.heap.size w w12)); clear HO_5; clear HB; have HO_5 := n0_; have HB := n1_; clear n0_ n1_; clear hg hw hp_))
   (try simp only [← hl5_1])
   go_roundg k1
   case measure => have := HK1.out; omega
   case rel => exact ⟨(y132), ((IntKind.u64.wrap ((IntKind.u64.wrap ((IntKind.u64.wrap (rd x5_1 x13_1)) - x6_1)) - (IntKind.u64.wrap (rd l1 x13_1)))) / 9223372036854775808), (wrap64 (x13_1 + 1)), sqE, sqE, H', ⟨by have := HK1.out; omega⟩, ⟨by (try simp only [hl5_1]); (with_reducible repeat (first | apply Kd.R_alloc | apply Kd.R_drewN | apply Kd.R_drew)); exact HO_5.out⟩, ⟨sqB⟩⟩
def weigh_nat_over.l0 : Nat → List Int → List Int → Int → Int → Option (Int × List Int)
 | 0, _, _, _, _ => none
 | k + 1, x0, x1, x6, x7 => if x7 ≥ 0 then ((weigh_nat_up.f k x1 x7).bind fun t139 => ((weigh_nat_compare.f k x0 t139).bind fun t142 => (if t142 ≥ 0 then ((weigh_nat_less.f k x0 t139).bind fun t143 => (if 0 ≤ x7 then (weigh_nat_over.l0 k t143 x1 (Go.bits .or .u64 x6 (shl .u64 1 x7)) (wrap64 (x7 - 1))) else (none))) else (weigh_nat_over.l0 k x0 x1 x6 (wrap64 (x7 - 1)))))) else (some (x6, x0))
def weigh_nat_over.f (k : Nat) (l0 : List Int) (l1 : List Int) : Option (Int × List Int) := (weigh_nat_length.f l0).bind fun t137 => ((weigh_nat_length.f l1).bind fun t138 => (weigh_nat_over.l0 k l0 l1 0 (wrap64 (t137 - t138))))
theorem weigh_nat_over.mono_l : ∀ k, (∀ y0 y1 y2 y3, LeO (weigh_nat_over.l0 k y0 y1 y2 y3) (weigh_nat_over.l0 (k + 1) y0 y1 y2 y3))
 | 0 => fun _ _ _ _ r h => by simp [weigh_nat_over.l0] at h
 | k + 1 => by
  have ih0 := weigh_nat_over.mono_l k
  intro y0 y1 y2 y3
  unfold weigh_nat_over.l0
  repeat' first | (with_reducible first | apply ih0 | apply weigh_nat_compare.mono | apply weigh_nat_less.mono | apply weigh_nat_up.mono | apply LeO.refl | apply LeO.none | refine LeO.ite ?_ ?_ | refine LeO.bind ?_ (fun _ => ?_)) | apply LeO.none | refine LeO.ite ?_ ?_ | refine LeO.bind ?_ (fun _ => ?_)
theorem weigh_nat_over.mono : ∀ a0 a1 k, LeO (weigh_nat_over.f k a0 a1) (weigh_nat_over.f (k + 1) a0 a1) := by
 intro a0 a1 k
 have ih0 := weigh_nat_over.mono_l k
 unfold weigh_nat_over.f
 repeat' first | (with_reducible first | apply ih0 | apply weigh_nat_compare.mono | apply weigh_nat_less.mono | apply weigh_nat_up.mono | apply LeO.refl | apply LeO.none | refine LeO.ite ?_ ?_ | refine LeO.bind ?_ (fun _ => ?_)) | apply LeO.none | refine LeO.ite ?_ ?_ | refine LeO.bind ?_ (fun _ => ?_)
theorem weigh_nat_over.calls (k : Nat) (P0_ : Nat → Prop) (A0 : Option Addr) (c0 : Nat) (l0 : List Int) (P1_ : Nat → Prop) (A1 : Option Addr) (c1 : Nat) (l1 : List Int) (r1 : Int) (r2 : List Int) (w : World) (hs0 : Kd.V (Kd.int .u32) 83 w w.heap.size (fun k_ => P0_ k_) (.slice A0 l0.length c0) l0) (hs1 : Kd.V (Kd.int .u32) 83 w w.heap.size (fun k_ => P1_ k_) (.slice A1 l1.length c1) l1) (h : weigh_nat_over.f k l0 l1 = some (r1, r2)) :
  Calls Tryz.prog 54 #[.slice A0 l0.length c0, .slice A1 l1.length c1] w fun e w' => ∃ v1_ : Value, e = .returned (.tuple #[.int .u64 r1, v1_]) ∧ Kd.V (Kd.int .u32) 83 w' w.heap.size (fun k_ => ((P0_ k_ ∨ P1_ k_) ∨ w.heap.size ≤ k_)) v1_ r2 ∧ Below w.heap.size w w' := by
 have HO0 := Aside0.mk (show Kd.V (Kd.int .u32) 83 w w.heap.size (fun k_ => ((P0_ k_ ∨ P1_ k_) ∨ w.heap.size ≤ k_)) (.slice A0 l0.length c0) l0 from Kd.V_mono hs0 (fun k_ hk => .inl (.inl hk)))
 have HO1 := Aside0.mk (show Kd.V (Kd.int .u32) 83 w w.heap.size (fun k_ => ((P0_ k_ ∨ P1_ k_) ∨ w.heap.size ≤ k_)) (.slice A1 l1.length c1) l1 from Kd.V_mono hs1 (fun k_ hk => .inl (.inr hk)))
 have HB := Aside0.mk (Below.refl w.heap.size w)
 have H : ((weigh_nat_length.f l0).bind fun t137 => ((weigh_nat_length.f l1).bind fun t138 => (weigh_nat_over.l0 k l0 l1 0 (wrap64 (t137 - t138))))) = some (r1, r2) := h
 clear h
 obtain ⟨t137, A3, H⟩ := sqO H
 try dsimp only at H
 obtain ⟨t138, A4, H⟩ := sqO H
 try dsimp only at H
 have H' := Aside0.mk H
 clear H
 go_enter Tryz.func54, Tryz.ntmps54
 go_wp2_with (first | ((with_reducible refine gate_callee (f := 51) rfl ?_); refine goesL_ (some 10) rfl rfl Tryz.func51 (by kernel_rfl) rfl #[.slice A0 l0.length c0] rfl sqA ?_; (with_reducible refine (weigh_nat_length.calls _ _ l0 t137 _ ?side1 ?side2 A3.out).mono ?_); (case side1 => repeat (first | exact (Kd.V_reads' HO0.out).2.2 | (with_reducible refine Kd.C_alloc ?_ _) | (with_reducible refine Kd.C_drewN ?_ _) | (with_reducible refine Kd.C_drew ?_))); (case side2 => exact (Kd.V_reads' HO0.out).2.1); rintro e w' ⟨rfl, ⟨nd, rfl⟩⟩; refine ⟨_, rfl, ?_⟩) | ((with_reducible refine gate_callee (f := 51) rfl ?_); refine goesL_ (some 12) rfl rfl Tryz.func51 (by kernel_rfl) rfl #[.slice A1 l1.length c1] rfl sqA ?_; (with_reducible refine (weigh_nat_length.calls _ _ l1 t138 _ ?side1 ?side2 A4.out).mono ?_); (case side1 => repeat (first | exact (Kd.V_reads' HO1.out).2.2 | (with_reducible refine Kd.C_alloc ?_ _) | (with_reducible refine Kd.C_drewN ?_ _) | (with_reducible refine Kd.C_drew ?_))); (case side2 => exact (Kd.V_reads' HO1.out).2.1); rintro e w' ⟨rfl, ⟨nd, rfl⟩⟩; refine ⟨_, rfl, ?_⟩))
 try simp only [Act.put, List.setIfInBounds_toArray, List.set_cons_zero, List.set_cons_succ]
 go_loopg [0, 6, 7] k (fun kq v0 v6 v7 w' => ∃ (x0_1 : List Int) (x6_1 : Int) (x7_1 : Int), v6 = .int .u64 x6_1 ∧ v7 = .int .i64 x7_1 ∧ Aside0 (weigh_nat_over.l0 kq x0_1 l1 x6_1 x7_1 = some (r1, r2)) ∧ Aside0 (kq ≤ k) ∧ Aside0 (Kd.V (Kd.int .u32) 83 w' w.heap.size (fun k_ => ((P0_ k_ ∨ P1_ k_) ∨ w.heap.size ≤ k_)) v0 x0_1) ∧ Aside0 (Kd.V (Kd.int .u32) 83 w' w.heap.size (fun k_ => ((P0_ k_ ∨ P1_ k_) ∨ w.heap.size ≤ k_)) (.slice A1 l1.length c1) l1) ∧ Aside0 (Below w.heap.size w w'))
 case atStart => exact ⟨(l0), (0), (wrap64 (t137 - t138)), sqE, sqE, H', ⟨Nat.le_refl _⟩, ⟨sqV HO0.out⟩, ⟨sqV HO1.out⟩, ⟨sqB⟩⟩
 case round =>
  clear H'
  try clear c1
  try clear p2
  obtain ⟨x0_1, x6_1, x7_1, rfl, rfl, HA, HK1, HO_0, HO_1, HB⟩ := hrel
  cases gk with
  | zero => exact absurd HA.out (by simp [weigh_nat_over.l0])
  | succ k1 =>
   have H := HA.out
   clear HA
   simp only [weigh_nat_over.l0] at H
   by_cases c5 : x7_1 ≥ 0
   case neg =>
    rw [if_neg c5] at H
    have c5b0 := decide_eq_false c5
    clear c5
    simp only [Option.some.injEq, Prod.mk.injEq] at H
    obtain ⟨rfl, rfl⟩ := H
    go_wp2
    go_ret2
    exact ⟨_, sqE', sqV HO_0.out, sqB⟩
   rw [if_pos c5] at H
   have c5b0 := decide_eq_true c5
   clear c5
   obtain ⟨t139, A6, H⟩ := sqO H
   try dsimp only at H
   obtain ⟨t142, A7, H⟩ := sqO H
   try dsimp only at H
   by_cases c8 : t142 ≥ 0
   case neg =>
    rw [if_neg c8] at H
    have c8b0 := decide_eq_false c8
    clear c8
    have H' := Aside0.mk H
    clear H
    go_wp2_with (first | ((with_reducible refine gate_callee (f := 52) rfl ?_); refine goesL_ (some 20) rfl rfl Tryz.func52 (by kernel_rfl) rfl #[.slice A1 l1.length c1, .int .i64 x7_1] rfl sqA ?_; (with_reducible refine (weigh_nat_up.calls k1 (fun k_ => ((P0_ k_ ∨ P1_ k_) ∨ w.heap.size ≤ k_)) _ _ l1 x7_1 t139 _ ?side1 A6.out).mono ?_); (case side1 => exact HO_1.out); rintro e w16 ⟨v140, rfl, ho0, hb⟩; refine ⟨_, rfl, ?_⟩; have n0_ := Aside0.mk (Kd.V_below (sqV HO_0.out) hb); have n1_ := Aside0.mk (Kd.V_below (sqV HO_1.out) hb); have n2_ := Aside0.mk (Kd.V_lower (Kd.V_mono (ok' := fun k_ => ((P0_ k_ ∨ P1_ k_) ∨ w.heap.size ≤ k_)) ho0 (fun k_ hk_ => Or.elim hk_ (fun hs_ => hs_) (fun hn_ => (.inr (Nat.le_trans (below_size sqB) hn_))))) (below_size sqB)); have n3_ := Aside0.mk (below_step sqB hb); clear HO_0; clear HO_1; clear HB; have HO_0 := n0_; have HO_1 := n1_; have HO141 := n2_; have HB := n3_; clear n0_ n1_ n2_ n3_; (try clear hb); (try clear hb2); (try clear hk); (try clear hi); (try clear ho0); obtain ⟨Ao17, co17, eo17⟩ := Kd.V_slice HO_0.out; subst eo17; obtain ⟨Ao18, co18, eo18⟩ := Kd.V_slice HO141.out; subst eo18) | ((with_reducible refine gate_callee (f := 53) rfl ?_); refine goesL_ (some 23) rfl rfl Tryz.func53 (by kernel_rfl) rfl #[.slice Ao17 x0_1.length co17, .slice Ao18 t139.length co18] rfl sqA ?_; (with_reducible refine (weigh_nat_compare.calls k1 _ _ x0_1 _ _ t139 t142 _ ?side1 ?side2 ?side3 ?side4 A7.out).mono ?_); (case side1 => repeat (first | exact (Kd.V_reads' HO_0.out).2.2 | (with_reducible refine Kd.C_alloc ?_ _) | (with_reducible refine Kd.C_drewN ?_ _) | (with_reducible refine Kd.C_drew ?_))); (case side2 => exact (Kd.V_reads' HO_0.out).2.1); (case side3 => repeat (first | exact (Kd.V_reads' HO141.out).2.2 | (with_reducible refine Kd.C_alloc ?_ _) | (with_reducible refine Kd.C_drewN ?_ _) | (with_reducible refine Kd.C_drew ?_))); (case side4 => exact (Kd.V_reads' HO141.out).2.1); rintro e w' ⟨rfl, ⟨nd, rfl⟩⟩; refine ⟨_, rfl, ?_⟩))
    go_roundg k1
    case measure => have := HK1.out; omega
    case rel => exact ⟨(x0_1), (x6_1), (wrap64 (x7_1 - 1)), sqE, sqE, H', ⟨by have := HK1.out; omega⟩, ⟨sqV HO_0.out⟩, ⟨sqV HO_1.out⟩, ⟨sqB⟩⟩
   rw [if_pos c8] at H
   have c8b0 := decide_eq_true c8
   clear c8
   obtain ⟨t143, A9, H⟩ := sqO H
   try dsimp only at H
   by_cases c10 : 0 ≤ x7_1
   case neg => rw [if_neg c10] at H; exact absurd H (by simp)
   rw [if_pos c10] at H
   have c10b0 := eq_true c10
   have c10b1 := decide_eq_true c10
   clear c10
   obtain ⟨ji11, hji11⟩ : ∃ j_ : Int, (shl .u64 1 x7_1) = j_ := ⟨_, rfl⟩
   replace H : (weigh_nat_over.l0 k1 t143 l1 (Go.bits .or .u64 x6_1 (ji11)) (wrap64 (x7_1 - 1))) = some (r1, r2) := by first | (rw [hji11] at H; exact H) | (simp only [hji11] at H ⊢; exact H)
   (try rw [hji11] at A6)
   (try rw [hji11] at A7)
   (try rw [hji11] at A9)
   have hji11_ : (IntKind.u64.wrap (1 * 2 ^ min x7_1.toNat 64)) = ji11 := hji11
   have hji11z : x7_1 ≤ 64 → (IntKind.u64.wrap (1 * 2 ^ x7_1.toNat)) = ji11 := shl_small hji11
   have hji11u : (IntKind.u64.wrap (2 ^ min x7_1.toNat 64)) = ji11 := by have h_ := hji11_; rw [Int.one_mul] at h_; exact h_
   have hji11v : x7_1 ≤ 64 → (IntKind.u64.wrap (2 ^ x7_1.toNat)) = ji11 := fun hle_ => by have h_ := hji11z hle_; rw [Int.one_mul] at h_; exact h_
   have H' := Aside0.mk H
   clear H
   go_wp2_with (first | ((with_reducible refine gate_callee (f := 52) rfl ?_); refine goesL_ (some 20) rfl rfl Tryz.func52 (by kernel_rfl) rfl #[.slice A1 l1.length c1, .int .i64 x7_1] rfl sqA ?_; (with_reducible refine (weigh_nat_up.calls k1 (fun k_ => ((P0_ k_ ∨ P1_ k_) ∨ w.heap.size ≤ k_)) _ _ l1 x7_1 t139 _ ?side1 A6.out).mono ?_); (case side1 => exact HO_1.out); rintro e w12 ⟨v140, rfl, ho0, hb⟩; refine ⟨_, rfl, ?_⟩; have n0_ := Aside0.mk (Kd.V_below (sqV HO_0.out) hb); have n1_ := Aside0.mk (Kd.V_below (sqV HO_1.out) hb); have n2_ := Aside0.mk (Kd.V_lower (Kd.V_mono (ok' := fun k_ => ((P0_ k_ ∨ P1_ k_) ∨ w.heap.size ≤ k_)) ho0 (fun k_ hk_ => Or.elim hk_ (fun hs_ => hs_) (fun hn_ => (.inr (Nat.le_trans (below_size sqB) hn_))))) (below_size sqB)); have n3_ := Aside0.mk (below_step sqB hb); clear HO_0; clear HO_1; clear HB; have HO_0 := n0_; have HO_1 := n1_; have HO141 := n2_; have HB := n3_; clear n0_ n1_ n2_ n3_; (try clear hb); (try clear hb2); (try clear hk); (try clear hi); (try clear ho0); obtain ⟨Ao13, co13, eo13⟩ := Kd.V_slice HO_0.out; subst eo13; obtain ⟨Ao14, co14, eo14⟩ := Kd.V_slice HO141.out; subst eo14) | ((with_reducible refine gate_callee (f := 53) rfl ?_); refine goesL_ (some 23) rfl rfl Tryz.func53 (by kernel_rfl) rfl #[.slice Ao13 x0_1.length co13, .slice Ao14 t139.length co14] rfl sqA ?_; (with_reducible refine (weigh_nat_compare.calls k1 _ _ x0_1 _ _ t139 t142 _ ?side1 ?side2 ?side3 ?side4 A7.out).mono ?_); (case side1 => repeat (first | exact (Kd.V_reads' HO_0.out).2.2 | (with_reducible refine Kd.C_alloc ?_ _) | (with_reducible refine Kd.C_drewN ?_ _) | (with_reducible refine Kd.C_drew ?_))); (case side2 => exact (Kd.V_reads' HO_0.out).2.1); (case side3 => repeat (first | exact (Kd.V_reads' HO141.out).2.2 | (with_reducible refine Kd.C_alloc ?_ _) | (with_reducible refine Kd.C_drewN ?_ _) | (with_reducible refine Kd.C_drew ?_))); (case side4 => exact (Kd.V_reads' HO141.out).2.1); rintro e w' ⟨rfl, ⟨nd, rfl⟩⟩; refine ⟨_, rfl, ?_⟩) | ((with_reducible refine gate_callee (f := 83) rfl ?_); refine goesL_ (some 27) rfl rfl Tryz.func83 (by kernel_rfl) rfl #[.slice Ao13 x0_1.length co13, .slice Ao14 t139.length co14] rfl sqA ?_; (with_reducible refine (weigh_nat_less.calls k1 _ _ x0_1 _ _ t139 t143 _ ?side1 ?side2 ?side3 ?side4 A9.out).mono ?_); (case side1 => repeat (first | exact (Kd.V_reads' HO_0.out).2.2 | (with_reducible refine Kd.C_alloc ?_ _) | (with_reducible refine Kd.C_drewN ?_ _) | (with_reducible refine Kd.C_drew ?_))); (case side2 => exact (Kd.V_reads' HO_0.out).2.1); (case side3 => repeat (first | exact (Kd.V_reads' HO141.out).2.2 | (with_reducible refine Kd.C_alloc ?_ _) | (with_reducible refine Kd.C_drewN ?_ _) | (with_reducible refine Kd.C_drew ?_))); (case side4 => exact (Kd.V_reads' HO141.out).2.1); rintro e w15 ⟨v144, rfl, ho0, hb⟩; refine ⟨_, rfl, ?_⟩; have n0_ := Aside0.mk (Kd.V_below (sqV HO_0.out) hb); have n1_ := Aside0.mk (Kd.V_below (sqV HO_1.out) hb); have n2_ := Aside0.mk (Kd.V_below (sqV HO141.out) hb); have n3_ := Aside0.mk (Kd.V_lower (Kd.V_mono (ok' := fun k_ => ((P0_ k_ ∨ P1_ k_) ∨ w.heap.size ≤ k_)) ho0 (fun k_ hk_ => (.inr (Nat.le_trans (below_size sqB) hk_)))) (below_size sqB)); have n4_ := Aside0.mk (below_step sqB hb); clear HO_0; clear HO_1; clear HO141; clear HB; have HO_0 := n0_; have HO_1 := n1_; have HO141 := n2_; have HO145 := n3_; have HB := n4_; clear n0_ n1_ n2_ n3_ n4_; (try clear hb); (try clear hb2); (try clear hk); (try clear hi); (try clear ho0)))
   go_roundg k1
   case measure => have := HK1.out; omega
   case rel => exact ⟨(t143), (Go.bits .or .u64 x6_1 (ji11)), (wrap64 (x7_1 - 1)), (by first | rfl | (simp; done) | (simp only [← hji11] <;> (first | rfl | simp)) | (simp [*]; done)), sqE, H', ⟨by have := HK1.out; omega⟩, ⟨sqV HO145.out⟩, ⟨sqV HO_1.out⟩, ⟨sqB⟩⟩
def weigh_half.f (k : Nat) (l0 : List Int) (l1 : List Int) : Option (Int) := (weigh_nat_up.f k l0 1).bind fun t146 => ((weigh_nat_compare.f k t146 l1).bind fun t149 => (some t149))
theorem weigh_half.mono : ∀ a0 a1 k, LeO (weigh_half.f k a0 a1) (weigh_half.f (k + 1) a0 a1) := by
 intro a0 a1 k
 unfold weigh_half.f
 repeat' first | (with_reducible first | apply weigh_nat_compare.mono | apply weigh_nat_up.mono | apply LeO.refl | apply LeO.none | refine LeO.ite ?_ ?_ | refine LeO.bind ?_ (fun _ => ?_)) | apply LeO.none | refine LeO.ite ?_ ?_ | refine LeO.bind ?_ (fun _ => ?_)
theorem weigh_half.calls (k : Nat) (A0 : Option Addr) (c0 : Nat) (l0 : List Int) (A1 : Option Addr) (c1 : Nat) (l1 : List Int) (r : Int) (w : World) (hr0 : Kd.C (Kd.int .u32) w A0 l0.length l0) (hc0 : l0.length ≤ c0) (hr1 : Kd.C (Kd.int .u32) w A1 l1.length l1) (hc1 : l1.length ≤ c1) (h : weigh_half.f k l0 l1 = some r) :
  Calls Tryz.prog 55 #[.slice A0 l0.length c0, .slice A1 l1.length c1] w fun e w' => e = .returned (.int .i64 r) ∧ Below w.heap.size w w' := by
 have HR0 := Aside0.mk hr0
 have HC0 := Aside0.mk hc0
 clear hr0 hc0
 have HR1 := Aside0.mk hr1
 have HC1 := Aside0.mk hc1
 clear hr1 hc1
 have HB := Aside0.mk (Below.refl w.heap.size w)
 have H : ((weigh_nat_up.f k l0 1).bind fun t146 => ((weigh_nat_compare.f k t146 l1).bind fun t149 => (some t149))) = some r := h
 clear h
 obtain ⟨t146, A3, H⟩ := sqO H
 try dsimp only at H
 obtain ⟨t149, A4, H⟩ := sqO H
 try dsimp only at H
 obtain rfl := Option.some.inj H
 go_enter Tryz.func55, Tryz.ntmps55
 go_wp2_with (first | ((with_reducible refine gate_callee (f := 52) rfl ?_); refine goesL_ (some 6) rfl rfl Tryz.func52 (by kernel_rfl) rfl #[.slice A0 l0.length c0, .int .i64 1] rfl sqA ?_; (with_reducible refine (weigh_nat_up.calls k (fun k_ => k_ < w.heap.size) _ _ l0 1 t146 _ ?side1 A3.out).mono ?_); (case side1 => exact Kd.V_mk HC0.out (Kd.F_below (Kd.C_F (Kd.heap_int .u32) HR0.out) sqB)); rintro e w5 ⟨v147, rfl, ho0, hb⟩; refine ⟨_, rfl, ?_⟩; have n0_ := Aside0.mk (Kd.V_lower (Kd.V_mono (ok' := fun k_ => True) ho0 (fun k_ hk_ => trivial)) (below_size sqB)); have n1_ := Aside0.mk (below_step sqB hb); clear HB; have HO148 := n0_; have HB := n1_; clear n0_ n1_; (try clear hb); (try clear hb2); (try clear hk); (try clear hi); (try clear ho0); obtain ⟨Ao6, co6, eo6⟩ := Kd.V_slice HO148.out; subst eo6) | ((with_reducible refine gate_callee (f := 53) rfl ?_); refine goesL_ (some 8) rfl rfl Tryz.func53 (by kernel_rfl) rfl #[.slice Ao6 t146.length co6, .slice A1 l1.length c1] rfl sqA ?_; (with_reducible refine (weigh_nat_compare.calls k _ _ t146 _ _ l1 t149 _ ?side1 ?side2 ?side3 ?side4 A4.out).mono ?_); (case side1 => repeat (first | exact (Kd.V_reads' HO148.out).2.2 | (with_reducible refine Kd.C_alloc ?_ _) | (with_reducible refine Kd.C_drewN ?_ _) | (with_reducible refine Kd.C_drew ?_))); (case side2 => exact (Kd.V_reads' HO148.out).2.1); (case side3 => repeat (first | exact (Kd.C_below HR1.out HB.out) | (with_reducible refine Kd.C_alloc ?_ _) | (with_reducible refine Kd.C_drewN ?_ _) | (with_reducible refine Kd.C_drew ?_))); (case side4 => exact HC1.out); rintro e w' ⟨rfl, ⟨nd, rfl⟩⟩; refine ⟨_, rfl, ?_⟩))
 go_ret
 exact ⟨sqE', sqB⟩
-- NOT PRINTED: function 87 (math_archLdexp)
-- NOT PRINTED: function 36 (math_Float64bits)
def math_Abs.f (a0 : Nat) : Option (Nat) := some (((Go.bits .andNot .u64 ((a0 : Nat) : Int) 9223372036854775808) : Int).toNat)
theorem math_Abs.calls (a0 : Nat) (r : Nat) (w : World) (h : math_Abs.f a0 = some r) :
  Calls Tryz.prog 59 #[.float .f64 a0] w fun e w' => e = .returned (.float .f64 r) ∧ Drawn0 w w' := by
 have H : (some (((Go.bits .andNot .u64 ((a0 : Nat) : Int) 9223372036854775808) : Int).toNat)) = some r := h
 clear h
 have hf2 := fun w_ : World => Rm.x_Float64bits a0 w_
 have hf3 := fun w_ : World => Rm.x_Float64frombits (Go.bits .andNot .u64 ((a0 : Nat) : Int) 9223372036854775808) w_
 obtain rfl := Option.some.inj H
 go_enter Tryz.func59, Tryz.ntmps59
 go_wp2
 go_ret
 exact ⟨sqE, sqW⟩
def math_IsInf.f (a0 : Nat) (a1 : Int) : Option (Bool) := if a1 = 0 then ((math_Abs.f a0).bind fun t150 => (some (FloatKind.f64.format.order t150 (9218868437227405311 : Nat) == some .gt))) else (if a1 < 0 then (some (FloatKind.f64.format.order (Op.negFloat .f64 a0) (9218868437227405311 : Nat) == some .gt)) else (some (FloatKind.f64.format.order a0 (9218868437227405311 : Nat) == some .gt)))
theorem math_IsInf.calls (a0 : Nat) (a1 : Int) (r : Bool) (w : World) (h : math_IsInf.f a0 a1 = some r) :
  Calls Tryz.prog 30 #[.float .f64 a0, .int .i64 a1] w fun e w' => e = .returned (.bool r) ∧ Drawn0 w w' := by
 have H : (if a1 = 0 then ((math_Abs.f a0).bind fun t150 => (some (FloatKind.f64.format.order t150 (9218868437227405311 : Nat) == some .gt))) else (if a1 < 0 then (some (FloatKind.f64.format.order (Op.negFloat .f64 a0) (9218868437227405311 : Nat) == some .gt)) else (some (FloatKind.f64.format.order a0 (9218868437227405311 : Nat) == some .gt)))) = some r := h
 clear h
 by_cases c3 : a1 = 0
 ·rw [if_pos c3] at H
  have c3b0 := beq_iff_eq.mpr c3
  have c3b1 := bne_eq_false_iff_eq.mpr c3
  clear c3
  obtain ⟨t150, A4, H⟩ := sqO H
  try dsimp only at H
  obtain rfl := Option.some.inj H
  go_enter Tryz.func30, Tryz.ntmps30
  go_wp2_with (first | ((with_reducible refine gate_callee (f := 59) rfl ?_); refine goesL_ (some 8) rfl rfl Tryz.func59 (by kernel_rfl) rfl #[.float .f64 a0] rfl sqA ?_; (with_reducible refine (math_Abs.calls a0 t150 _ A4.out).mono ?_); rintro e w' ⟨rfl, ⟨nd, rfl⟩⟩; refine ⟨_, rfl, ?_⟩))
  go_ret
  exact ⟨sqE, sqW⟩
 rw [if_neg c3] at H
 have c3b0 := beq_eq_false_iff_ne.mpr c3
 have c3b1 := bne_iff_ne.mpr c3
 by_cases c5 : a1 < 0
 ·rw [if_pos c5] at H
  have c5b0 := decide_eq_true c5
  clear c5
  obtain rfl := Option.some.inj H
  go_enter Tryz.func30, Tryz.ntmps30
  go_wp2
  go_ret
  exact ⟨sqE, sqW⟩
 rw [if_neg c5] at H
 have c5b0 := decide_eq_false c5
 clear c5
 obtain rfl := Option.some.inj H
 go_enter Tryz.func30, Tryz.ntmps30
 go_wp2
 go_ret
 exact ⟨sqE, sqW⟩
def math_Copysign.f (a0 : Nat) (a1 : Nat) : Option (Nat) := some (((Go.bits .or .u64 (Go.bits .andNot .u64 ((a0 : Nat) : Int) 9223372036854775808) (Go.bits .and .u64 ((a1 : Nat) : Int) 9223372036854775808)) : Int).toNat)
theorem math_Copysign.calls (a0 : Nat) (a1 : Nat) (r : Nat) (w : World) (h : math_Copysign.f a0 a1 = some r) :
  Calls Tryz.prog 31 #[.float .f64 a0, .float .f64 a1] w fun e w' => e = .returned (.float .f64 r) ∧ Drawn0 w w' := by
 have H : (some (((Go.bits .or .u64 (Go.bits .andNot .u64 ((a0 : Nat) : Int) 9223372036854775808) (Go.bits .and .u64 ((a1 : Nat) : Int) 9223372036854775808)) : Int).toNat)) = some r := h
 clear h
 have hf3 := fun w_ : World => Rm.x_Float64bits a0 w_
 have hf4 := fun w_ : World => Rm.x_Float64bits a1 w_
 have hf5 := fun w_ : World => Rm.x_Float64frombits (Go.bits .or .u64 (Go.bits .andNot .u64 ((a0 : Nat) : Int) 9223372036854775808) (Go.bits .and .u64 ((a1 : Nat) : Int) 9223372036854775808)) w_
 obtain rfl := Option.some.inj H
 go_enter Tryz.func31, Tryz.ntmps31
 go_wp2
 go_ret
 exact ⟨sqE, sqW⟩
def math_IsNaN.f (a0 : Nat) : Option (Bool) := some (FloatKind.f64.format.order a0 a0 != some .eq)
theorem math_IsNaN.calls (a0 : Nat) (r : Bool) (w : World) (h : math_IsNaN.f a0 = some r) :
  Calls Tryz.prog 92 #[.float .f64 a0] w fun e w' => e = .returned (.bool r) ∧ Drawn0 w w' := by
 have H : (some (FloatKind.f64.format.order a0 a0 != some .eq)) = some r := h
 clear h
 obtain rfl := Option.some.inj H
 go_enter Tryz.func92, Tryz.ntmps92
 go_wp2
 go_ret
 exact ⟨sqE, sqW⟩
def math_normalize.f (a0 : Nat) : Option (Nat × Int) := (math_Abs.f a0).bind fun t151 => (if (FloatKind.f64.format.order t151 (4503599627370496 : Nat) == some .lt) = true then ((floatBits .mul .f64 a0 (4841369599423283200 : Nat)).bind fun t152 => (some (t152, (-52)))) else (some (a0, 0)))
theorem math_normalize.calls (a0 : Nat) (r1 : Nat) (r2 : Int) (w : World) (h : math_normalize.f a0 = some (r1, r2)) :
  Calls Tryz.prog 103 #[.float .f64 a0] w fun e w' => e = .returned (.tuple #[.float .f64 r1, .int .i64 r2]) ∧ Drawn0 w w' := by
 have H : ((math_Abs.f a0).bind fun t151 => (if (FloatKind.f64.format.order t151 (4503599627370496 : Nat) == some .lt) = true then ((floatBits .mul .f64 a0 (4841369599423283200 : Nat)).bind fun t152 => (some (t152, (-52)))) else (some (a0, 0)))) = some (r1, r2) := h
 clear h
 obtain ⟨t151, A2, H⟩ := sqO H
 try dsimp only at H
 by_cases c3 : (FloatKind.f64.format.order t151 (4503599627370496 : Nat) == some .lt) = true
 case neg =>
  rw [if_neg c3] at H
  have c3b0 : (FloatKind.f64.format.order t151 (4503599627370496 : Nat) == some .lt) = false := by simpa using c3
  (try (have c3b1 : decide (FloatKind.f64.format.order t151 (4503599627370496 : Nat) = some .lt) = false := by simpa using c3))
  (try (have c3b2 : (FloatKind.f64.format.order t151 (4503599627370496 : Nat) == some .lt) = false := by simpa using c3))
  (try (have c3b3 : ¬ (FloatKind.f64.format.order t151 (4503599627370496 : Nat) = some .lt) := by simpa using c3))
  clear c3
  simp only [Option.some.injEq, Prod.mk.injEq] at H
  obtain ⟨rfl, rfl⟩ := H
  go_enter Tryz.func103, Tryz.ntmps103
  go_wp2_with (first | ((with_reducible refine gate_callee (f := 59) rfl ?_); refine goesL_ (some 5) rfl rfl Tryz.func59 (by kernel_rfl) rfl #[.float .f64 a0] rfl sqA ?_; (with_reducible refine (math_Abs.calls a0 t151 _ A2.out).mono ?_); rintro e w' ⟨rfl, ⟨nd, rfl⟩⟩; refine ⟨_, rfl, ?_⟩))
  go_ret2
  exact ⟨sqE, sqW⟩
 rw [if_pos c3] at H
 have c3b0 : (FloatKind.f64.format.order t151 (4503599627370496 : Nat) == some .lt) = true := c3
 (try (have c3b1 : decide (FloatKind.f64.format.order t151 (4503599627370496 : Nat) = some .lt) = true := by simpa using c3))
 (try (have c3b2 : (FloatKind.f64.format.order t151 (4503599627370496 : Nat) == some .lt) = true := by simpa using c3))
 clear c3
 replace H := Option.bind_eq_some_iff.mp H
 obtain ⟨t152, A40, H⟩ := H
 try dsimp only at H
 have hf5 : ∀ w_ : World, Sem.run Tryz.prog (binOp .mul 22 (.float .f64 a0) (.float .f64 (4841369599423283200 : Nat))) w_ = .ok (.float .f64 t152) w_ := fun w_ => run_float_arith w_ .mul 22 .f64 a0 (4841369599423283200 : Nat) t152 A40
 clear A40
 simp only [Option.some.injEq, Prod.mk.injEq] at H
 obtain ⟨rfl, rfl⟩ := H
 go_enter Tryz.func103, Tryz.ntmps103
 go_wp2_with (first | ((with_reducible refine gate_callee (f := 59) rfl ?_); refine goesL_ (some 5) rfl rfl Tryz.func59 (by kernel_rfl) rfl #[.float .f64 a0] rfl sqA ?_; (with_reducible refine (math_Abs.calls a0 t151 _ A2.out).mono ?_); rintro e w' ⟨rfl, ⟨nd, rfl⟩⟩; refine ⟨_, rfl, ?_⟩))
 go_ret2
 exact ⟨sqE, sqW⟩
def math_ldexp.f (a0 : Nat) (a1 : Int) : Option (Nat) := if (FloatKind.f64.format.order a0 (0 : Nat) == some .eq) = true then (some a0) else ((math_IsInf.f a0 0).bind fun t153 => (if t153 = true then (some a0) else ((math_IsNaN.f a0).bind fun t154 => (if t154 = true then (some a0) else ((math_normalize.f a0).bind fun bt155 => (if (wrap64 ((wrap64 (a1 + bt155.2)) + (wrap64 ((Go.bits .and .i64 (wrap64 (((bt155.1 : Nat) : Int) / 4503599627370496)) 2047) - 1023)))) < (-1075) then ((math_Copysign.f (0 : Nat) bt155.1).bind fun t157 => (some t157)) else (if (wrap64 ((wrap64 (a1 + bt155.2)) + (wrap64 ((Go.bits .and .i64 (wrap64 (((bt155.1 : Nat) : Int) / 4503599627370496)) 2047) - 1023)))) > 1023 then (if (FloatKind.f64.format.order bt155.1 (0 : Nat) == some .lt) = true then ((math_Inf.f (-1)).bind fun t158 => (some t158)) else ((math_Inf.f 1).bind fun t159 => (some t159))) else (if (wrap64 ((wrap64 (a1 + bt155.2)) + (wrap64 ((Go.bits .and .i64 (wrap64 (((bt155.1 : Nat) : Int) / 4503599627370496)) 2047) - 1023)))) < (-1022) then ((floatBits .mul .f64 (4368491638549381120 : Nat) (((Go.bits .or .u64 (Go.bits .andNot .u64 ((bt155.1 : Nat) : Int) 9218868437227405312) (IntKind.u64.wrap ((IntKind.u64.wrap (wrap64 ((wrap64 ((wrap64 ((wrap64 (a1 + bt155.2)) + (wrap64 ((Go.bits .and .i64 (wrap64 (((bt155.1 : Nat) : Int) / 4503599627370496)) 2047) - 1023)))) + 53)) + 1023))) * 4503599627370496))) : Int).toNat)).bind fun t160 => (some t160)) else ((floatBits .mul .f64 (4607182418800017408 : Nat) (((Go.bits .or .u64 (Go.bits .andNot .u64 ((bt155.1 : Nat) : Int) 9218868437227405312) (IntKind.u64.wrap ((IntKind.u64.wrap (wrap64 ((wrap64 ((wrap64 (a1 + bt155.2)) + (wrap64 ((Go.bits .and .i64 (wrap64 (((bt155.1 : Nat) : Int) / 4503599627370496)) 2047) - 1023)))) + 1023))) * 4503599627370496))) : Int).toNat)).bind fun t161 => (some t161))))))))))
theorem math_ldexp.calls (a0 : Nat) (a1 : Int) (r : Nat) (w : World) (h : math_ldexp.f a0 a1 = some r) :
  Calls Tryz.prog 88 #[.float .f64 a0, .int .i64 a1] w fun e w' => e = .returned (.float .f64 r) ∧ Drawn0 w w' := by
 have H : (if (FloatKind.f64.format.order a0 (0 : Nat) == some .eq) = true then (some a0) else ((math_IsInf.f a0 0).bind fun t153 => (if t153 = true then (some a0) else ((math_IsNaN.f a0).bind fun t154 => (if t154 = true then (some a0) else ((math_normalize.f a0).bind fun bt155 => (if (wrap64 ((wrap64 (a1 + bt155.2)) + (wrap64 ((Go.bits .and .i64 (wrap64 (((bt155.1 : Nat) : Int) / 4503599627370496)) 2047) - 1023)))) < (-1075) then ((math_Copysign.f (0 : Nat) bt155.1).bind fun t157 => (some t157)) else (if (wrap64 ((wrap64 (a1 + bt155.2)) + (wrap64 ((Go.bits .and .i64 (wrap64 (((bt155.1 : Nat) : Int) / 4503599627370496)) 2047) - 1023)))) > 1023 then (if (FloatKind.f64.format.order bt155.1 (0 : Nat) == some .lt) = true then ((math_Inf.f (-1)).bind fun t158 => (some t158)) else ((math_Inf.f 1).bind fun t159 => (some t159))) else (if (wrap64 ((wrap64 (a1 + bt155.2)) + (wrap64 ((Go.bits .and .i64 (wrap64 (((bt155.1 : Nat) : Int) / 4503599627370496)) 2047) - 1023)))) < (-1022) then ((floatBits .mul .f64 (4368491638549381120 : Nat) (((Go.bits .or .u64 (Go.bits .andNot .u64 ((bt155.1 : Nat) : Int) 9218868437227405312) (IntKind.u64.wrap ((IntKind.u64.wrap (wrap64 ((wrap64 ((wrap64 ((wrap64 (a1 + bt155.2)) + (wrap64 ((Go.bits .and .i64 (wrap64 (((bt155.1 : Nat) : Int) / 4503599627370496)) 2047) - 1023)))) + 53)) + 1023))) * 4503599627370496))) : Int).toNat)).bind fun t160 => (some t160)) else ((floatBits .mul .f64 (4607182418800017408 : Nat) (((Go.bits .or .u64 (Go.bits .andNot .u64 ((bt155.1 : Nat) : Int) 9218868437227405312) (IntKind.u64.wrap ((IntKind.u64.wrap (wrap64 ((wrap64 ((wrap64 (a1 + bt155.2)) + (wrap64 ((Go.bits .and .i64 (wrap64 (((bt155.1 : Nat) : Int) / 4503599627370496)) 2047) - 1023)))) + 1023))) * 4503599627370496))) : Int).toNat)).bind fun t161 => (some t161))))))))))) = some r := h
 clear h
 by_cases c3 : (FloatKind.f64.format.order a0 (0 : Nat) == some .eq) = true
 ·rw [if_pos c3] at H
  have c3b0 : (FloatKind.f64.format.order a0 (0 : Nat) == some .eq) = true := c3
  (try (have c3b1 : decide (FloatKind.f64.format.order a0 (0 : Nat) = some .eq) = true := by simpa using c3))
  (try (have c3b2 : (FloatKind.f64.format.order a0 (0 : Nat) == some .eq) = true := by simpa using c3))
  clear c3
  obtain rfl := Option.some.inj H
  go_enter Tryz.func88, Tryz.ntmps88
  go_wp2
  go_ret
  exact ⟨sqE, sqW⟩
 rw [if_neg c3] at H
 have c3b0 : (FloatKind.f64.format.order a0 (0 : Nat) == some .eq) = false := by simpa using c3
 (try (have c3b1 : decide (FloatKind.f64.format.order a0 (0 : Nat) = some .eq) = false := by simpa using c3))
 (try (have c3b2 : (FloatKind.f64.format.order a0 (0 : Nat) == some .eq) = false := by simpa using c3))
 (try (have c3b3 : ¬ (FloatKind.f64.format.order a0 (0 : Nat) = some .eq) := by simpa using c3))
 clear c3
 obtain ⟨t153, A4, H⟩ := sqO H
 try dsimp only at H
 by_cases c5 : t153 = true
 ·subst c5
  have H1 : (some a0) = some r := by rw [if_pos rfl] at H; exact H
  clear H
  have H := H1
  clear H1
  obtain rfl := Option.some.inj H
  go_enter Tryz.func88, Tryz.ntmps88
  go_wp2_with (first | ((with_reducible refine gate_callee (f := 30) rfl ?_); refine goesL_ (some 14) rfl rfl Tryz.func30 (by kernel_rfl) rfl #[.float .f64 a0, .int .i64 0] rfl sqA ?_; (with_reducible refine (math_IsInf.calls a0 0 true _ A4.out).mono ?_); rintro e w' ⟨rfl, ⟨nd, rfl⟩⟩; refine ⟨_, rfl, ?_⟩))
  go_ret
  exact ⟨sqE, sqW⟩
 replace c5 := Bool.eq_false_iff.mpr c5
 subst c5
 have H1 : ((math_IsNaN.f a0).bind fun t154 => (if t154 = true then (some a0) else ((math_normalize.f a0).bind fun bt155 => (if (wrap64 ((wrap64 (a1 + bt155.2)) + (wrap64 ((Go.bits .and .i64 (wrap64 (((bt155.1 : Nat) : Int) / 4503599627370496)) 2047) - 1023)))) < (-1075) then ((math_Copysign.f (0 : Nat) bt155.1).bind fun t157 => (some t157)) else (if (wrap64 ((wrap64 (a1 + bt155.2)) + (wrap64 ((Go.bits .and .i64 (wrap64 (((bt155.1 : Nat) : Int) / 4503599627370496)) 2047) - 1023)))) > 1023 then (if (FloatKind.f64.format.order bt155.1 (0 : Nat) == some .lt) = true then ((math_Inf.f (-1)).bind fun t158 => (some t158)) else ((math_Inf.f 1).bind fun t159 => (some t159))) else (if (wrap64 ((wrap64 (a1 + bt155.2)) + (wrap64 ((Go.bits .and .i64 (wrap64 (((bt155.1 : Nat) : Int) / 4503599627370496)) 2047) - 1023)))) < (-1022) then ((floatBits .mul .f64 (4368491638549381120 : Nat) (((Go.bits .or .u64 (Go.bits .andNot .u64 ((bt155.1 : Nat) : Int) 9218868437227405312) (IntKind.u64.wrap ((IntKind.u64.wrap (wrap64 ((wrap64 ((wrap64 ((wrap64 (a1 + bt155.2)) + (wrap64 ((Go.bits .and .i64 (wrap64 (((bt155.1 : Nat) : Int) / 4503599627370496)) 2047) - 1023)))) + 53)) + 1023))) * 4503599627370496))) : Int).toNat)).bind fun t160 => (some t160)) else ((floatBits .mul .f64 (4607182418800017408 : Nat) (((Go.bits .or .u64 (Go.bits .andNot .u64 ((bt155.1 : Nat) : Int) 9218868437227405312) (IntKind.u64.wrap ((IntKind.u64.wrap (wrap64 ((wrap64 ((wrap64 (a1 + bt155.2)) + (wrap64 ((Go.bits .and .i64 (wrap64 (((bt155.1 : Nat) : Int) / 4503599627370496)) 2047) - 1023)))) + 1023))) * 4503599627370496))) : Int).toNat)).bind fun t161 => (some t161)))))))) = some r := by rw [if_neg (show ¬ (false = true) by decide)] at H; exact H
 clear H
 have H := H1
 clear H1
 obtain ⟨t154, A6, H⟩ := sqO H
 try dsimp only at H
 by_cases c7 : t154 = true
 ·subst c7
  have H1 : (some a0) = some r := by rw [if_pos rfl] at H; exact H
  clear H
  have H := H1
  clear H1
  obtain rfl := Option.some.inj H
  go_enter Tryz.func88, Tryz.ntmps88
  go_wp2_with (first | ((with_reducible refine gate_callee (f := 30) rfl ?_); refine goesL_ (some 14) rfl rfl Tryz.func30 (by kernel_rfl) rfl #[.float .f64 a0, .int .i64 0] rfl sqA ?_; (with_reducible refine (math_IsInf.calls a0 0 false _ A4.out).mono ?_); rintro e w' ⟨rfl, ⟨nd, rfl⟩⟩; refine ⟨_, rfl, ?_⟩) | (go_at_call 92; (with_reducible refine (math_IsNaN.calls a0 true _ A6.out).mono ?_); rintro e w' ⟨rfl, ⟨nd, rfl⟩⟩))
  go_ret
  exact ⟨sqE, sqW⟩
 replace c7 := Bool.eq_false_iff.mpr c7
 subst c7
 have H1 : ((math_normalize.f a0).bind fun bt155 => (if (wrap64 ((wrap64 (a1 + bt155.2)) + (wrap64 ((Go.bits .and .i64 (wrap64 (((bt155.1 : Nat) : Int) / 4503599627370496)) 2047) - 1023)))) < (-1075) then ((math_Copysign.f (0 : Nat) bt155.1).bind fun t157 => (some t157)) else (if (wrap64 ((wrap64 (a1 + bt155.2)) + (wrap64 ((Go.bits .and .i64 (wrap64 (((bt155.1 : Nat) : Int) / 4503599627370496)) 2047) - 1023)))) > 1023 then (if (FloatKind.f64.format.order bt155.1 (0 : Nat) == some .lt) = true then ((math_Inf.f (-1)).bind fun t158 => (some t158)) else ((math_Inf.f 1).bind fun t159 => (some t159))) else (if (wrap64 ((wrap64 (a1 + bt155.2)) + (wrap64 ((Go.bits .and .i64 (wrap64 (((bt155.1 : Nat) : Int) / 4503599627370496)) 2047) - 1023)))) < (-1022) then ((floatBits .mul .f64 (4368491638549381120 : Nat) (((Go.bits .or .u64 (Go.bits .andNot .u64 ((bt155.1 : Nat) : Int) 9218868437227405312) (IntKind.u64.wrap ((IntKind.u64.wrap (wrap64 ((wrap64 ((wrap64 ((wrap64 (a1 + bt155.2)) + (wrap64 ((Go.bits .and .i64 (wrap64 (((bt155.1 : Nat) : Int) / 4503599627370496)) 2047) - 1023)))) + 53)) + 1023))) * 4503599627370496))) : Int).toNat)).bind fun t160 => (some t160)) else ((floatBits .mul .f64 (4607182418800017408 : Nat) (((Go.bits .or .u64 (Go.bits .andNot .u64 ((bt155.1 : Nat) : Int) 9218868437227405312) (IntKind.u64.wrap ((IntKind.u64.wrap (wrap64 ((wrap64 ((wrap64 (a1 + bt155.2)) + (wrap64 ((Go.bits .and .i64 (wrap64 (((bt155.1 : Nat) : Int) / 4503599627370496)) 2047) - 1023)))) + 1023))) * 4503599627370496))) : Int).toNat)).bind fun t161 => (some t161)))))) = some r := by rw [if_neg (show ¬ (false = true) by decide)] at H; exact H
 clear H
 have H := H1
 clear H1
 obtain ⟨⟨t155, t156⟩, A8, H⟩ := sqO H
 try dsimp only at H
 have hf9 := fun w_ : World => Rm.x_Float64bits t155 w_
 by_cases c10 : (wrap64 ((wrap64 (a1 + t156)) + (wrap64 ((Go.bits .and .i64 (wrap64 (((t155 : Nat) : Int) / 4503599627370496)) 2047) - 1023)))) < (-1075)
 ·rw [if_pos c10] at H
  have c10b0 := decide_eq_true c10
  clear c10
  obtain ⟨t157, A11, H⟩ := sqO H
  try dsimp only at H
  obtain rfl := Option.some.inj H
  go_enter Tryz.func88, Tryz.ntmps88
  go_wp2_with (first | ((with_reducible refine gate_callee (f := 30) rfl ?_); refine goesL_ (some 14) rfl rfl Tryz.func30 (by kernel_rfl) rfl #[.float .f64 a0, .int .i64 0] rfl sqA ?_; (with_reducible refine (math_IsInf.calls a0 0 false _ A4.out).mono ?_); rintro e w' ⟨rfl, ⟨nd, rfl⟩⟩; refine ⟨_, rfl, ?_⟩) | (go_at_call 92; (with_reducible refine (math_IsNaN.calls a0 false _ A6.out).mono ?_); rintro e w' ⟨rfl, ⟨nd, rfl⟩⟩) | ((with_reducible refine gate_callee (f := 103) rfl ?_); refine goesL_ (some 22) rfl rfl Tryz.func103 (by kernel_rfl) rfl #[.float .f64 a0] rfl sqA ?_; (with_reducible refine (math_normalize.calls a0 t155 t156 _ A8.out).mono ?_); rintro e w' ⟨rfl, ⟨nd, rfl⟩⟩; refine ⟨_, rfl, ?_⟩) | ((with_reducible refine gate_callee (f := 31) rfl ?_); refine goesL_ (some 40) rfl rfl Tryz.func31 (by kernel_rfl) rfl #[.float .f64 (0 : Nat), .float .f64 t155] rfl sqA ?_; (with_reducible refine (math_Copysign.calls (0 : Nat) t155 t157 _ A11.out).mono ?_); rintro e w' ⟨rfl, ⟨nd, rfl⟩⟩; refine ⟨_, rfl, ?_⟩))
  go_ret
  exact ⟨sqE, sqW⟩
 rw [if_neg c10] at H
 have c10b0 := decide_eq_false c10
 clear c10
 by_cases c12 : (wrap64 ((wrap64 (a1 + t156)) + (wrap64 ((Go.bits .and .i64 (wrap64 (((t155 : Nat) : Int) / 4503599627370496)) 2047) - 1023)))) > 1023
 ·rw [if_pos c12] at H
  have c12b0 := decide_eq_true c12
  clear c12
  by_cases c13 : (FloatKind.f64.format.order t155 (0 : Nat) == some .lt) = true
  ·rw [if_pos c13] at H
   have c13b0 : (FloatKind.f64.format.order t155 (0 : Nat) == some .lt) = true := c13
   (try (have c13b1 : decide (FloatKind.f64.format.order t155 (0 : Nat) = some .lt) = true := by simpa using c13))
   (try (have c13b2 : (FloatKind.f64.format.order t155 (0 : Nat) == some .lt) = true := by simpa using c13))
   clear c13
   obtain ⟨t158, A14, H⟩ := sqO H
   try dsimp only at H
   obtain rfl := Option.some.inj H
   go_enter Tryz.func88, Tryz.ntmps88
   go_wp2_with (first | ((with_reducible refine gate_callee (f := 30) rfl ?_); refine goesL_ (some 14) rfl rfl Tryz.func30 (by kernel_rfl) rfl #[.float .f64 a0, .int .i64 0] rfl sqA ?_; (with_reducible refine (math_IsInf.calls a0 0 false _ A4.out).mono ?_); rintro e w' ⟨rfl, ⟨nd, rfl⟩⟩; refine ⟨_, rfl, ?_⟩) | (go_at_call 92; (with_reducible refine (math_IsNaN.calls a0 false _ A6.out).mono ?_); rintro e w' ⟨rfl, ⟨nd, rfl⟩⟩) | ((with_reducible refine gate_callee (f := 103) rfl ?_); refine goesL_ (some 22) rfl rfl Tryz.func103 (by kernel_rfl) rfl #[.float .f64 a0] rfl sqA ?_; (with_reducible refine (math_normalize.calls a0 t155 t156 _ A8.out).mono ?_); rintro e w' ⟨rfl, ⟨nd, rfl⟩⟩; refine ⟨_, rfl, ?_⟩) | ((with_reducible refine gate_callee (f := 24) rfl ?_); refine goesL_ (some 45) rfl rfl Tryz.func24 (by kernel_rfl) rfl #[.int .i64 (-1)] rfl sqA ?_; (with_reducible refine (math_Inf.calls (-1) t158 _ A14.out).mono ?_); rintro e w' ⟨rfl, ⟨nd, rfl⟩⟩; refine ⟨_, rfl, ?_⟩))
   go_ret
   exact ⟨sqE, sqW⟩
  rw [if_neg c13] at H
  have c13b0 : (FloatKind.f64.format.order t155 (0 : Nat) == some .lt) = false := by simpa using c13
  (try (have c13b1 : decide (FloatKind.f64.format.order t155 (0 : Nat) = some .lt) = false := by simpa using c13))
  (try (have c13b2 : (FloatKind.f64.format.order t155 (0 : Nat) == some .lt) = false := by simpa using c13))
  (try (have c13b3 : ¬ (FloatKind.f64.format.order t155 (0 : Nat) = some .lt) := by simpa using c13))
  clear c13
  obtain ⟨t159, A15, H⟩ := sqO H
  try dsimp only at H
  obtain rfl := Option.some.inj H
  go_enter Tryz.func88, Tryz.ntmps88
  go_wp2_with (first | ((with_reducible refine gate_callee (f := 30) rfl ?_); refine goesL_ (some 14) rfl rfl Tryz.func30 (by kernel_rfl) rfl #[.float .f64 a0, .int .i64 0] rfl sqA ?_; (with_reducible refine (math_IsInf.calls a0 0 false _ A4.out).mono ?_); rintro e w' ⟨rfl, ⟨nd, rfl⟩⟩; refine ⟨_, rfl, ?_⟩) | (go_at_call 92; (with_reducible refine (math_IsNaN.calls a0 false _ A6.out).mono ?_); rintro e w' ⟨rfl, ⟨nd, rfl⟩⟩) | ((with_reducible refine gate_callee (f := 103) rfl ?_); refine goesL_ (some 22) rfl rfl Tryz.func103 (by kernel_rfl) rfl #[.float .f64 a0] rfl sqA ?_; (with_reducible refine (math_normalize.calls a0 t155 t156 _ A8.out).mono ?_); rintro e w' ⟨rfl, ⟨nd, rfl⟩⟩; refine ⟨_, rfl, ?_⟩) | ((with_reducible refine gate_callee (f := 24) rfl ?_); refine goesL_ (some 46) rfl rfl Tryz.func24 (by kernel_rfl) rfl #[.int .i64 1] rfl sqA ?_; (with_reducible refine (math_Inf.calls 1 t159 _ A15.out).mono ?_); rintro e w' ⟨rfl, ⟨nd, rfl⟩⟩; refine ⟨_, rfl, ?_⟩))
  go_ret
  exact ⟨sqE, sqW⟩
 rw [if_neg c12] at H
 have c12b0 := decide_eq_false c12
 clear c12
 by_cases c16 : (wrap64 ((wrap64 (a1 + t156)) + (wrap64 ((Go.bits .and .i64 (wrap64 (((t155 : Nat) : Int) / 4503599627370496)) 2047) - 1023)))) < (-1022)
 ·rw [if_pos c16] at H
  have c16b0 := decide_eq_true c16
  clear c16
  have hf17 := fun w_ : World => Rm.x_Float64frombits (Go.bits .or .u64 (Go.bits .andNot .u64 ((t155 : Nat) : Int) 9218868437227405312) (IntKind.u64.wrap ((IntKind.u64.wrap (wrap64 ((wrap64 ((wrap64 ((wrap64 (a1 + t156)) + (wrap64 ((Go.bits .and .i64 (wrap64 (((t155 : Nat) : Int) / 4503599627370496)) 2047) - 1023)))) + 53)) + 1023))) * 4503599627370496))) w_
  replace H := Option.bind_eq_some_iff.mp H
  obtain ⟨t160, A180, H⟩ := H
  try dsimp only at H
  have hf19 : ∀ w_ : World, Sem.run Tryz.prog (binOp .mul 22 (.float .f64 (4368491638549381120 : Nat)) (.float .f64 (((Go.bits .or .u64 (Go.bits .andNot .u64 ((t155 : Nat) : Int) 9218868437227405312) (IntKind.u64.wrap ((IntKind.u64.wrap (wrap64 ((wrap64 ((wrap64 ((wrap64 (a1 + t156)) + (wrap64 ((Go.bits .and .i64 (wrap64 (((t155 : Nat) : Int) / 4503599627370496)) 2047) - 1023)))) + 53)) + 1023))) * 4503599627370496))) : Int).toNat))) w_ = .ok (.float .f64 t160) w_ := fun w_ => run_float_arith w_ .mul 22 .f64 (4368491638549381120 : Nat) (((Go.bits .or .u64 (Go.bits .andNot .u64 ((t155 : Nat) : Int) 9218868437227405312) (IntKind.u64.wrap ((IntKind.u64.wrap (wrap64 ((wrap64 ((wrap64 ((wrap64 (a1 + t156)) + (wrap64 ((Go.bits .and .i64 (wrap64 (((t155 : Nat) : Int) / 4503599627370496)) 2047) - 1023)))) + 53)) + 1023))) * 4503599627370496))) : Int).toNat) t160 A180
  clear A180
  obtain rfl := Option.some.inj H
  go_enter Tryz.func88, Tryz.ntmps88
  go_wp2_with (first | ((with_reducible refine gate_callee (f := 30) rfl ?_); refine goesL_ (some 14) rfl rfl Tryz.func30 (by kernel_rfl) rfl #[.float .f64 a0, .int .i64 0] rfl sqA ?_; (with_reducible refine (math_IsInf.calls a0 0 false _ A4.out).mono ?_); rintro e w' ⟨rfl, ⟨nd, rfl⟩⟩; refine ⟨_, rfl, ?_⟩) | (go_at_call 92; (with_reducible refine (math_IsNaN.calls a0 false _ A6.out).mono ?_); rintro e w' ⟨rfl, ⟨nd, rfl⟩⟩) | ((with_reducible refine gate_callee (f := 103) rfl ?_); refine goesL_ (some 22) rfl rfl Tryz.func103 (by kernel_rfl) rfl #[.float .f64 a0] rfl sqA ?_; (with_reducible refine (math_normalize.calls a0 t155 t156 _ A8.out).mono ?_); rintro e w' ⟨rfl, ⟨nd, rfl⟩⟩; refine ⟨_, rfl, ?_⟩))
  go_ret
  exact ⟨sqE, sqW⟩
 rw [if_neg c16] at H
 have c16b0 := decide_eq_false c16
 clear c16
 have hf20 := fun w_ : World => Rm.x_Float64frombits (Go.bits .or .u64 (Go.bits .andNot .u64 ((t155 : Nat) : Int) 9218868437227405312) (IntKind.u64.wrap ((IntKind.u64.wrap (wrap64 ((wrap64 ((wrap64 (a1 + t156)) + (wrap64 ((Go.bits .and .i64 (wrap64 (((t155 : Nat) : Int) / 4503599627370496)) 2047) - 1023)))) + 1023))) * 4503599627370496))) w_
 replace H := Option.bind_eq_some_iff.mp H
 obtain ⟨t161, A210, H⟩ := H
 try dsimp only at H
 have hf22 : ∀ w_ : World, Sem.run Tryz.prog (binOp .mul 22 (.float .f64 (4607182418800017408 : Nat)) (.float .f64 (((Go.bits .or .u64 (Go.bits .andNot .u64 ((t155 : Nat) : Int) 9218868437227405312) (IntKind.u64.wrap ((IntKind.u64.wrap (wrap64 ((wrap64 ((wrap64 (a1 + t156)) + (wrap64 ((Go.bits .and .i64 (wrap64 (((t155 : Nat) : Int) / 4503599627370496)) 2047) - 1023)))) + 1023))) * 4503599627370496))) : Int).toNat))) w_ = .ok (.float .f64 t161) w_ := fun w_ => run_float_arith w_ .mul 22 .f64 (4607182418800017408 : Nat) (((Go.bits .or .u64 (Go.bits .andNot .u64 ((t155 : Nat) : Int) 9218868437227405312) (IntKind.u64.wrap ((IntKind.u64.wrap (wrap64 ((wrap64 ((wrap64 (a1 + t156)) + (wrap64 ((Go.bits .and .i64 (wrap64 (((t155 : Nat) : Int) / 4503599627370496)) 2047) - 1023)))) + 1023))) * 4503599627370496))) : Int).toNat) t161 A210
 clear A210
 obtain rfl := Option.some.inj H
 go_enter Tryz.func88, Tryz.ntmps88
 go_wp2_with (first | ((with_reducible refine gate_callee (f := 30) rfl ?_); refine goesL_ (some 14) rfl rfl Tryz.func30 (by kernel_rfl) rfl #[.float .f64 a0, .int .i64 0] rfl sqA ?_; (with_reducible refine (math_IsInf.calls a0 0 false _ A4.out).mono ?_); rintro e w' ⟨rfl, ⟨nd, rfl⟩⟩; refine ⟨_, rfl, ?_⟩) | (go_at_call 92; (with_reducible refine (math_IsNaN.calls a0 false _ A6.out).mono ?_); rintro e w' ⟨rfl, ⟨nd, rfl⟩⟩) | ((with_reducible refine gate_callee (f := 103) rfl ?_); refine goesL_ (some 22) rfl rfl Tryz.func103 (by kernel_rfl) rfl #[.float .f64 a0] rfl sqA ?_; (with_reducible refine (math_normalize.calls a0 t155 t156 _ A8.out).mono ?_); rintro e w' ⟨rfl, ⟨nd, rfl⟩⟩; refine ⟨_, rfl, ?_⟩))
 go_ret
 exact ⟨sqE, sqW⟩
def math_Ldexp.f (a0 : Nat) (a1 : Int) : Option (Nat) := (math_ldexp.f a0 a1).bind fun t162 => (some t162)
theorem math_Ldexp.calls (a0 : Nat) (a1 : Int) (r : Nat) (w : World) (h : math_Ldexp.f a0 a1 = some r) :
  Calls Tryz.prog 56 #[.float .f64 a0, .int .i64 a1] w fun e w' => e = .returned (.float .f64 r) ∧ Drawn0 w w' := by
 have H : ((math_ldexp.f a0 a1).bind fun t162 => (some t162)) = some r := h
 clear h
 obtain ⟨t162, A3, H⟩ := sqO H
 try dsimp only at H
 obtain rfl := Option.some.inj H
 go_enter Tryz.func56, Tryz.ntmps56
 go_wp2_with (first | ((with_reducible refine gate_callee (f := 88) rfl ?_); refine goesL_ (some 10) rfl rfl Tryz.func88 (by kernel_rfl) rfl #[.float .f64 a0, .int .i64 a1] rfl sqA ?_; (with_reducible refine (math_ldexp.calls a0 a1 t162 _ A3.out).mono ?_); rintro e w' ⟨rfl, ⟨nd, rfl⟩⟩; refine ⟨_, rfl, ?_⟩))
 go_ret
 exact ⟨sqE, sqW⟩
end Go.Proofs.YtfmjdoofopamkaaGreatDoor.W
