import Derived.Test.YtnoppeocbfapdaaGreatDoorTx0
import Derived.Test.YtnoppeocbfapdaaGreatDoorTx1
import Derived.Test.YtnoppeocbfapdaaGreatDoorTx2
namespace Go.Proofs.YtnoppeocbfapdaaGreatDoor.T
open Go.RowKit Go.Proofs.YtnoppeocbfapdaaGreatDoorW.PrintWords Go.Proofs.YtnoppeocbfapdaaGreatDoorW.PrintLast Go.Proofs.YtnoppeocbfapdaaGreatDoorW.PrintMore
set_option maxHeartbeats 8000000
set_option maxRecDepth 100000
attribute [local go_sem] max2_int min2_int max_two min_two max_three min_three max_four min_four
set_option linter.unusedVariables false
set_option linter.unusedSimpArgs false
def scalar_Sound.l0 : Nat → List Int → Int → Int → Option (Bool)
 | 0, _, _, _ => none
 | k + 1, x5, x6, x7 => if x7 < x6 then (if 0 ≤ x7 then (if x7 < (x5.length : Int) then ((scalar_Valid.f (rd x5 x7)).bind fun t136 => (if t136 = true then (scalar_Sound.l0 k x5 x6 (wrap64 (x7 + 1))) else (some false))) else (none)) else (none)) else (some true)
def scalar_Sound.f (k : Nat) (l0 : List Int) : Option (Bool) := scalar_Sound.l0 k l0 (l0.length : Int) 0
theorem scalar_Sound.mono_l : ∀ k, (∀ y0 y1 y2, LeO (scalar_Sound.l0 k y0 y1 y2) (scalar_Sound.l0 (k + 1) y0 y1 y2))
 | 0 => fun _ _ _ r h => by simp [scalar_Sound.l0] at h
 | k + 1 => by
  have ih0 := scalar_Sound.mono_l k
  intro y0 y1 y2
  unfold scalar_Sound.l0
  repeat' first | (with_reducible first | apply ih0 | apply LeO.refl | apply LeO.none | refine LeO.ite ?_ ?_ | refine LeO.bind ?_ (fun _ => ?_)) | apply LeO.none | refine LeO.ite ?_ ?_ | refine LeO.bind ?_ (fun _ => ?_)
theorem scalar_Sound.mono : ∀ a0 k, LeO (scalar_Sound.f k a0) (scalar_Sound.f (k + 1) a0) := by
 intro a0 k
 have ih0 := scalar_Sound.mono_l k
 unfold scalar_Sound.f
 repeat' first | (with_reducible first | apply ih0 | apply LeO.refl | apply LeO.none | refine LeO.ite ?_ ?_ | refine LeO.bind ?_ (fun _ => ?_)) | apply LeO.none | refine LeO.ite ?_ ?_ | refine LeO.bind ?_ (fun _ => ?_)
theorem scalar_Sound.calls (k : Nat) (A0 : Option Addr) (c0 : Nat) (l0 : List Int) (r : Bool) (w : World) (hr0 : Kd.C (Kd.int .i32) w A0 l0.length l0) (hc0 : l0.length ≤ c0) (h : scalar_Sound.f k l0 = some r) :
  Calls Tryz.prog 101 #[.slice A0 l0.length c0] w fun e w' => e = .returned (.bool r) ∧ Drawn0 w w' := by
 have HR0 := Aside0.mk hr0
 have HC0 := Aside0.mk hc0
 clear hr0 hc0
 have H : (scalar_Sound.l0 k l0 (l0.length : Int) 0) = some r := h
 clear h
 have H' := Aside0.mk H
 clear H
 go_enter Tryz.func101, Tryz.ntmps101
 go_wp2
 go_loopg [7] k (fun kq v7 w' => ∃ (x7_1 : Int), v7 = .int .i64 x7_1 ∧ Aside0 (scalar_Sound.l0 kq l0 (l0.length : Int) x7_1 = some r) ∧ Aside0 (kq ≤ k) ∧ Drawn0 w w')
 case atStart => exact ⟨(0), sqE, H', ⟨Nat.le_refl _⟩, sqW⟩
 case round =>
  clear H'
  obtain ⟨x7_1, rfl, HA, HK1, ⟨m1, rfl⟩⟩ := hrel
  cases gk with
  | zero => exact absurd HA.out (by simp [scalar_Sound.l0])
  | succ k1 =>
   have H := HA.out
   clear HA
   simp only [scalar_Sound.l0] at H
   by_cases c2 : x7_1 < (l0.length : Int)
   case neg =>
    rw [if_neg c2] at H
    have c2b0 := decide_eq_false c2
    clear c2
    obtain rfl := Option.some.inj H
    go_wp2
    go_ret
    exact ⟨sqE, sqW⟩
   rw [if_pos c2] at H
   have c2b0 := decide_eq_true c2
   clear c2
   by_cases c3 : 0 ≤ x7_1
   case neg => rw [if_neg c3] at H; exact absurd H (by simp)
   rw [if_pos c3] at H
   have c3b0 := decide_eq_true c3
   clear c3
   by_cases c4 : x7_1 < (l0.length : Int)
   case neg => rw [if_neg c4] at H; exact absurd H (by simp)
   rw [if_pos c4] at H
   have c4b0 := decide_eq_true c4
   clear c4
   obtain ⟨t136, A5, H⟩ := sqO H
   try dsimp only at H
   by_cases c6 : t136 = true
   ·subst c6
    rw [if_pos rfl] at H
    have H' := Aside0.mk H
    clear H
    have p135 : 0 ≤ (x7_1 : Int) := sqD
    have q135 : x7_1 < (l0.length : Int) := sqD
    obtain ⟨ad135, e135, hx135_0⟩ := Kd.at_int HR0.out x7_1 p135 q135
    cases e135
    replace p135 := eq_true p135
    replace q135 := eq_true q135
    go_wp2_with (first | ((with_reducible refine gate_callee (f := 102) rfl ?_); refine goesL_ (some 12) rfl rfl Tryz.func102 (by kernel_rfl) rfl #[.int .i32 (rd l0 x7_1)] rfl sqA ?_; (with_reducible refine (scalar_Valid.calls (rd l0 x7_1) true _ A5.out).mono ?_); rintro e w' ⟨rfl, ⟨nd, rfl⟩⟩; refine ⟨_, rfl, ?_⟩))
    go_roundg k1
    case measure => have := HK1.out; omega
    case rel => exact ⟨(wrap64 (x7_1 + 1)), sqE, H', ⟨by have := HK1.out; omega⟩, sqW⟩
   replace c6 := Bool.eq_false_iff.mpr c6
   subst c6
   rw [if_neg (show ¬ (false = true) by decide)] at H
   obtain rfl := Option.some.inj H
   have p135 : 0 ≤ (x7_1 : Int) := sqD
   have q135 : x7_1 < (l0.length : Int) := sqD
   obtain ⟨ad135, e135, hx135_0⟩ := Kd.at_int HR0.out x7_1 p135 q135
   cases e135
   replace p135 := eq_true p135
   replace q135 := eq_true q135
   go_wp2_with (first | ((with_reducible refine gate_callee (f := 102) rfl ?_); refine goesL_ (some 12) rfl rfl Tryz.func102 (by kernel_rfl) rfl #[.int .i32 (rd l0 x7_1)] rfl sqA ?_; (with_reducible refine (scalar_Valid.calls (rd l0 x7_1) false _ A5.out).mono ?_); rintro e w' ⟨rfl, ⟨nd, rfl⟩⟩; refine ⟨_, rfl, ?_⟩))
   go_ret
   exact ⟨sqE, sqW⟩
def table_sound.f (k : Nat) (a0_0 : Int) (a0_1 : Int) (a0_2 : Int) (a0_3 : Int) (l0_4 : List Int) (a0_5 : ByteArray) (a0_6 : ByteArray) (a0_7 : Nat) (a1 : Int) (a2 : Int) : Option (Bool) := if (l0_4.length : Int) ≥ a1 then (if (l0_4.length : Int) ≤ a2 then ((scalar_Sound.f k l0_4).bind fun t138 => (some t138)) else (some false)) else (some false)
theorem table_sound.mono : ∀ a0 a1 a2 a3 a4 a5 a6 a7 a8 a9 k, LeO (table_sound.f k a0 a1 a2 a3 a4 a5 a6 a7 a8 a9) (table_sound.f (k + 1) a0 a1 a2 a3 a4 a5 a6 a7 a8 a9) := by
 intro a0 a1 a2 a3 a4 a5 a6 a7 a8 a9 k
 unfold table_sound.f
 repeat' first | (with_reducible first | apply scalar_Sound.mono | apply LeO.refl | apply LeO.none | refine LeO.ite ?_ ?_ | refine LeO.bind ?_ (fun _ => ?_)) | apply LeO.none | refine LeO.ite ?_ ?_ | refine LeO.bind ?_ (fun _ => ?_)
theorem table_sound.calls (k : Nat) (a0_0 : Int) (a0_1 : Int) (a0_2 : Int) (a0_3 : Int) (A0_4 : Option Addr) (c0_4 : Nat) (l0_4 : List Int) (a0_5 : ByteArray) (a0_6 : ByteArray) (a0_7 : Nat) (a1 : Int) (a2 : Int) (r : Bool) (w : World) (hr0_4 : Kd.C (Kd.int .i32) w A0_4 l0_4.length l0_4) (hc0_4 : l0_4.length ≤ c0_4) (h : table_sound.f k a0_0 a0_1 a0_2 a0_3 l0_4 a0_5 a0_6 a0_7 a1 a2 = some r) :
  Calls Tryz.prog 73 #[.agg #[.int .i64 a0_0, .int .i64 a0_1, .int .i64 a0_2, .int .i64 a0_3, .slice A0_4 l0_4.length c0_4, .string a0_5, .string a0_6, .float .f64 a0_7], .int .i64 a1, .int .i64 a2] w fun e w' => e = .returned (.bool r) ∧ Below w.heap.size w w' := by
 have hu25 := Tryz.underlying25
 have HR0_4 := Aside0.mk hr0_4
 have HC0_4 := Aside0.mk hc0_4
 clear hr0_4 hc0_4
 have HB := Aside0.mk (Below.refl w.heap.size w)
 have H : (if (l0_4.length : Int) ≥ a1 then (if (l0_4.length : Int) ≤ a2 then ((scalar_Sound.f k l0_4).bind fun t138 => (some t138)) else (some false)) else (some false)) = some r := h
 clear h
 go_enter Tryz.func73, Tryz.ntmps73
 go_upto_region 1 with (first | ((with_reducible refine gate_dst (N := 3) rfl ?_); (try (refine gate_guard (by rfl) ?_; dsimp only)); refine box_event ?hg (N := 3) ?hd (cs := #[.int .i64 a0_0, .int .i64 a0_1, .int .i64 a0_2, .int .i64 a0_3, .slice A0_4 l0_4.length c0_4, .string a0_5, .string a0_6, .float .f64 a0_7]) (t := 25) ?hr ?_; (case hd => rfl); (case hg => rfl); (case hr => first | (go_simp; done) | (go_simp; rfl)); intro gb137 hg w11 hbox hb; have n0_ := Aside0.mk (below_step sqB hb); have n1_ := Aside0.mk (hbox); have n2_ := Aside0.mk ((by rw [hg]; exact (below_size sqB) : w.heap.size ≤ gb137)); have n3_ := Aside0.mk ((by rw [hg]; exact (below_size sqB) : w.heap.size ≤ gb137)); clear HB; have HB := n0_; have BK137 := n1_; have GW137 := n2_; have GE137 := n3_; clear n0_ n1_ n2_ n3_; clear hb hbox hg; obtain ⟨z0, z1, z2, z3, z4, z5, z6, z7, y0, y1, y2, y3, y4, y5, y6, y7⟩ := box8 BK137.out))
 by_cases c4 : (l0_4.length : Int) ≥ a1
 case neg =>
  rw [if_neg c4] at H
  have c4b0 := decide_eq_false c4
  clear c4
  obtain rfl := Option.some.inj H
  go_wp2
  go_ret
  exact ⟨sqE', sqH⟩
 rw [if_pos c4] at H
 have c4b0 := decide_eq_true c4
 clear c4
 by_cases c5 : (l0_4.length : Int) ≤ a2
 case neg =>
  rw [if_neg c5] at H
  have c5b0 := decide_eq_false c5
  clear c5
  obtain rfl := Option.some.inj H
  go_wp2
  go_ret
  exact ⟨sqE', sqH⟩
 rw [if_pos c5] at H
 have c5b0 := decide_eq_true c5
 clear c5
 obtain ⟨t138, A6, H⟩ := sqO H
 try dsimp only at H
 obtain rfl := Option.some.inj H
 go_wp2_with (first | (go_at_call 101; (with_reducible refine (scalar_Sound.calls k _ _ l0_4 t138 _ ?side1 ?side2 A6.out).mono ?_); (case side1 => exact sqC (Kd.C_below HR0_4.out HB.out)); (case side2 => exact HC0_4.out); rintro e w' ⟨rfl, ⟨nd, rfl⟩⟩))
 go_ret
 exact ⟨sqE', sqH⟩
def table_between.f (a0_0 : Int) (a0_1 : Int) (a0_2 : Int) (a0_3 : Int) (l0_4 : List Int) (a0_5 : ByteArray) (a0_6 : ByteArray) (a0_7 : Nat) (a1 : Int) (a2 : Int) : Option (Bool) := if a0_3 ≥ a1 then (some (decide (a0_3 ≤ a2))) else (some false)
theorem table_between.calls (a0_0 : Int) (a0_1 : Int) (a0_2 : Int) (a0_3 : Int) (A0_4 : Option Addr) (c0_4 : Nat) (l0_4 : List Int) (a0_5 : ByteArray) (a0_6 : ByteArray) (a0_7 : Nat) (a1 : Int) (a2 : Int) (r : Bool) (w : World) (hr0_4 : Kd.C (Kd.int .i32) w A0_4 l0_4.length l0_4) (hc0_4 : l0_4.length ≤ c0_4) (h : table_between.f a0_0 a0_1 a0_2 a0_3 l0_4 a0_5 a0_6 a0_7 a1 a2 = some r) :
  Calls Tryz.prog 76 #[.agg #[.int .i64 a0_0, .int .i64 a0_1, .int .i64 a0_2, .int .i64 a0_3, .slice A0_4 l0_4.length c0_4, .string a0_5, .string a0_6, .float .f64 a0_7], .int .i64 a1, .int .i64 a2] w fun e w' => e = .returned (.bool r) ∧ Below w.heap.size w w' := by
 have hu25 := Tryz.underlying25
 have HR0_4 := Aside0.mk hr0_4
 have HC0_4 := Aside0.mk hc0_4
 clear hr0_4 hc0_4
 have HB := Aside0.mk (Below.refl w.heap.size w)
 have H : (if a0_3 ≥ a1 then (some (decide (a0_3 ≤ a2))) else (some false)) = some r := h
 clear h
 by_cases c4 : a0_3 ≥ a1
 ·rw [if_pos c4] at H
  have c4b0 := decide_eq_true c4
  clear c4
  obtain rfl := Option.some.inj H
  go_enter Tryz.func76, Tryz.ntmps76
  go_wp2_with (first | ((with_reducible refine gate_dst (N := 3) rfl ?_); refine box_event ?hg (N := 3) ?hd (cs := #[.int .i64 a0_0, .int .i64 a0_1, .int .i64 a0_2, .int .i64 a0_3, .slice A0_4 l0_4.length c0_4, .string a0_5, .string a0_6, .float .f64 a0_7]) (t := 25) ?hr ?_; (case hd => rfl); (case hg => rfl); (case hr => first | (go_simp; done) | (go_simp; rfl)); intro gb139 hg w5 hbox hb; have n0_ := Aside0.mk (below_step sqB hb); have n1_ := Aside0.mk (hbox); have n2_ := Aside0.mk ((by rw [hg]; exact (below_size sqB) : w.heap.size ≤ gb139)); have n3_ := Aside0.mk ((by rw [hg]; exact (below_size sqB) : w.heap.size ≤ gb139)); clear HB; have HB := n0_; have BK139 := n1_; have GW139 := n2_; have GE139 := n3_; clear n0_ n1_ n2_ n3_; clear hb hbox hg; obtain ⟨z0, z1, z2, z3, z4, z5, z6, z7, y0, y1, y2, y3, y4, y5, y6, y7⟩ := box8 BK139.out))
  go_ret
  exact ⟨sqE', sqH⟩
 rw [if_neg c4] at H
 have c4b0 := decide_eq_false c4
 clear c4
 obtain rfl := Option.some.inj H
 go_enter Tryz.func76, Tryz.ntmps76
 go_wp2_with (first | ((with_reducible refine gate_dst (N := 3) rfl ?_); refine box_event ?hg (N := 3) ?hd (cs := #[.int .i64 a0_0, .int .i64 a0_1, .int .i64 a0_2, .int .i64 a0_3, .slice A0_4 l0_4.length c0_4, .string a0_5, .string a0_6, .float .f64 a0_7]) (t := 25) ?hr ?_; (case hd => rfl); (case hg => rfl); (case hr => first | (go_simp; done) | (go_simp; rfl)); intro gb139 hg w7 hbox hb; have n0_ := Aside0.mk (below_step sqB hb); have n1_ := Aside0.mk (hbox); have n2_ := Aside0.mk ((by rw [hg]; exact (below_size sqB) : w.heap.size ≤ gb139)); have n3_ := Aside0.mk ((by rw [hg]; exact (below_size sqB) : w.heap.size ≤ gb139)); clear HB; have HB := n0_; have BK139 := n1_; have GW139 := n2_; have GE139 := n3_; clear n0_ n1_ n2_ n3_; clear hb hbox hg; obtain ⟨z0, z1, z2, z3, z4, z5, z6, z7, y0, y1, y2, y3, y4, y5, y6, y7⟩ := box8 BK139.out))
 go_ret
 exact ⟨sqE', sqH⟩
def table_shifts.f (a0_0 : Int) (a0_1 : Int) (a0_2 : Int) (a0_3 : Int) (l0_4 : List Int) (a0_5 : ByteArray) (a0_6 : ByteArray) (a0_7 : Nat) : Option (Bool) := (table_between.f a0_0 a0_1 a0_2 a0_3 l0_4 a0_5 a0_6 a0_7 1 64).bind fun t141 => (if t141 = true then (if (l0_4.length : Int) = 1 then (if 0 < (l0_4.length : Int) then ((scalar_Valid.f (rd l0_4 0)).bind fun t143 => (if t143 = true then ((scalar_Valid.f (wrap32 ((rd l0_4 0) + (wrap32 (wrap64 (a0_2 - a0_1)))))).bind fun t145 => (if t145 = true then (some ((decide ((wrap32 ((rd l0_4 0) + (wrap32 (wrap64 (a0_2 - a0_1))))) < 55296)) == (decide ((rd l0_4 0) < 55296)))) else (some false))) else (some false))) else (none)) else (some false)) else (some false))
theorem table_shifts.calls (a0_0 : Int) (a0_1 : Int) (a0_2 : Int) (a0_3 : Int) (A0_4 : Option Addr) (c0_4 : Nat) (l0_4 : List Int) (a0_5 : ByteArray) (a0_6 : ByteArray) (a0_7 : Nat) (r : Bool) (w : World) (hr0_4 : Kd.C (Kd.int .i32) w A0_4 l0_4.length l0_4) (hc0_4 : l0_4.length ≤ c0_4) (h : table_shifts.f a0_0 a0_1 a0_2 a0_3 l0_4 a0_5 a0_6 a0_7 = some r) :
  Calls Tryz.prog 74 #[.agg #[.int .i64 a0_0, .int .i64 a0_1, .int .i64 a0_2, .int .i64 a0_3, .slice A0_4 l0_4.length c0_4, .string a0_5, .string a0_6, .float .f64 a0_7]] w fun e w' => e = .returned (.bool r) ∧ Below w.heap.size w w' := by
 have hu25 := Tryz.underlying25
 have HR0_4 := Aside0.mk hr0_4
 have HC0_4 := Aside0.mk hc0_4
 clear hr0_4 hc0_4
 have HB := Aside0.mk (Below.refl w.heap.size w)
 have H : ((table_between.f a0_0 a0_1 a0_2 a0_3 l0_4 a0_5 a0_6 a0_7 1 64).bind fun t141 => (if t141 = true then (if (l0_4.length : Int) = 1 then (if 0 < (l0_4.length : Int) then ((scalar_Valid.f (rd l0_4 0)).bind fun t143 => (if t143 = true then ((scalar_Valid.f (wrap32 ((rd l0_4 0) + (wrap32 (wrap64 (a0_2 - a0_1)))))).bind fun t145 => (if t145 = true then (some ((decide ((wrap32 ((rd l0_4 0) + (wrap32 (wrap64 (a0_2 - a0_1))))) < 55296)) == (decide ((rd l0_4 0) < 55296)))) else (some false))) else (some false))) else (none)) else (some false)) else (some false))) = some r := h
 clear h
 go_enter Tryz.func74, Tryz.ntmps74
 go_upto_region 1 with (first | ((with_reducible refine gate_dst (N := 1) rfl ?_); (try (refine gate_guard (by rfl) ?_; dsimp only)); refine box_event ?hg (N := 1) ?hd (cs := #[.int .i64 a0_0, .int .i64 a0_1, .int .i64 a0_2, .int .i64 a0_3, .slice A0_4 l0_4.length c0_4, .string a0_5, .string a0_6, .float .f64 a0_7]) (t := 25) ?hr ?_; (case hd => rfl); (case hg => rfl); (case hr => first | (go_simp; done) | (go_simp; rfl)); intro gb140 hg w26 hbox hb; have n0_ := Aside0.mk (below_step sqB hb); have n1_ := Aside0.mk (hbox); have n2_ := Aside0.mk ((by rw [hg]; exact (below_size sqB) : w.heap.size ≤ gb140)); have n3_ := Aside0.mk ((by rw [hg]; exact (below_size sqB) : w.heap.size ≤ gb140)); clear HB; have HB := n0_; have BK140 := n1_; have GW140 := n2_; have GE140 := n3_; clear n0_ n1_ n2_ n3_; clear hb hbox hg; obtain ⟨z0, z1, z2, z3, z4, z5, z6, z7, y0, y1, y2, y3, y4, y5, y6, y7⟩ := box8 BK140.out))
 obtain ⟨t141, A2, H⟩ := sqO H
 try dsimp only at H
 by_cases c3 : t141 = true
 case neg =>
  replace c3 := Bool.eq_false_iff.mpr c3
  subst c3
  rw [if_neg (show ¬ (false = true) by decide)] at H
  obtain rfl := Option.some.inj H
  go_wp2_with (first | (go_at_call 76; (with_reducible refine (table_between.calls a0_0 a0_1 a0_2 a0_3 _ _ l0_4 a0_5 a0_6 a0_7 1 64 false _ ?side1 ?side2 A2.out).mono ?_); (case side1 => exact sqC (Kd.C_below HR0_4.out HB.out)); (case side2 => exact HC0_4.out); rintro e w28 ⟨rfl, hb⟩; replace BK140 := Aside0.mk (sqM BK140.out hb); replace HB := Aside0.mk (below_step sqH hb); (try clear hb)))
  repeat (go_quiet (first | (go_at_call 76; (with_reducible refine (table_between.calls a0_0 a0_1 a0_2 a0_3 _ _ l0_4 a0_5 a0_6 a0_7 1 64 false _ ?side1 ?side2 A2.out).mono ?_); (case side1 => exact sqC (Kd.C_below HR0_4.out HB.out)); (case side2 => exact HC0_4.out); rintro e w28 ⟨rfl, hb⟩; replace BK140 := Aside0.mk (sqM BK140.out hb); replace HB := Aside0.mk (below_step sqH hb); (try clear hb))); try go_wp2_with (first | (go_at_call 76; (with_reducible refine (table_between.calls a0_0 a0_1 a0_2 a0_3 _ _ l0_4 a0_5 a0_6 a0_7 1 64 false _ ?side1 ?side2 A2.out).mono ?_); (case side1 => exact sqC (Kd.C_below HR0_4.out HB.out)); (case side2 => exact HC0_4.out); rintro e w28 ⟨rfl, hb⟩; replace BK140 := Aside0.mk (sqM BK140.out hb); replace HB := Aside0.mk (below_step sqH hb); (try clear hb))))
  go_ret
  exact ⟨sqE', sqH⟩
 subst c3
 rw [if_pos rfl] at H
 by_cases c4 : (l0_4.length : Int) = 1
 case neg =>
  rw [if_neg c4] at H
  have c4b0 := beq_eq_false_iff_ne.mpr c4
  have c4b1 := bne_iff_ne.mpr c4
  obtain rfl := Option.some.inj H
  go_wp2_with (first | (go_at_call 76; (with_reducible refine (table_between.calls a0_0 a0_1 a0_2 a0_3 _ _ l0_4 a0_5 a0_6 a0_7 1 64 true _ ?side1 ?side2 A2.out).mono ?_); (case side1 => exact sqC (Kd.C_below HR0_4.out HB.out)); (case side2 => exact HC0_4.out); rintro e w24 ⟨rfl, hb⟩; replace BK140 := Aside0.mk (sqM BK140.out hb); replace HB := Aside0.mk (below_step sqH hb); (try clear hb); obtain ⟨z0, z1, z2, z3, z4, z5, z6, z7, y0, y1, y2, y3, y4, y5, y6, y7⟩ := box8 BK140.out))
  repeat (go_quiet (first | (go_at_call 76; (with_reducible refine (table_between.calls a0_0 a0_1 a0_2 a0_3 _ _ l0_4 a0_5 a0_6 a0_7 1 64 true _ ?side1 ?side2 A2.out).mono ?_); (case side1 => exact sqC (Kd.C_below HR0_4.out HB.out)); (case side2 => exact HC0_4.out); rintro e w24 ⟨rfl, hb⟩; replace BK140 := Aside0.mk (sqM BK140.out hb); replace HB := Aside0.mk (below_step sqH hb); (try clear hb); obtain ⟨z0, z1, z2, z3, z4, z5, z6, z7, y0, y1, y2, y3, y4, y5, y6, y7⟩ := box8 BK140.out)); try go_wp2_with (first | (go_at_call 76; (with_reducible refine (table_between.calls a0_0 a0_1 a0_2 a0_3 _ _ l0_4 a0_5 a0_6 a0_7 1 64 true _ ?side1 ?side2 A2.out).mono ?_); (case side1 => exact sqC (Kd.C_below HR0_4.out HB.out)); (case side2 => exact HC0_4.out); rintro e w24 ⟨rfl, hb⟩; replace BK140 := Aside0.mk (sqM BK140.out hb); replace HB := Aside0.mk (below_step sqH hb); (try clear hb); obtain ⟨z0, z1, z2, z3, z4, z5, z6, z7, y0, y1, y2, y3, y4, y5, y6, y7⟩ := box8 BK140.out)))
  go_ret
  exact ⟨sqE', sqH⟩
 rw [if_pos c4] at H
 have c4b0 := beq_iff_eq.mpr c4
 have c4b1 := bne_eq_false_iff_eq.mpr c4
 clear c4
 by_cases c5 : 0 < (l0_4.length : Int)
 case neg => rw [if_neg c5] at H; exact absurd H (by simp)
 rw [if_pos c5] at H
 have c5b0 := decide_eq_true c5
 have c5b1 : decide (0 < l0_4.length) = true := decide_eq_true (by omega)
 clear c5
 obtain ⟨t143, A6, H⟩ := sqO H
 try dsimp only at H
 by_cases c7 : t143 = true
 case neg =>
  replace c7 := Bool.eq_false_iff.mpr c7
  subst c7
  rw [if_neg (show ¬ (false = true) by decide)] at H
  obtain rfl := Option.some.inj H
  go_wp2_with (first | (go_at_call 76; (with_reducible refine (table_between.calls a0_0 a0_1 a0_2 a0_3 _ _ l0_4 a0_5 a0_6 a0_7 1 64 true _ ?side1 ?side2 A2.out).mono ?_); (case side1 => exact sqC (Kd.C_below HR0_4.out HB.out)); (case side2 => exact HC0_4.out); rintro e w20 ⟨rfl, hb⟩; replace BK140 := Aside0.mk (sqM BK140.out hb); replace HB := Aside0.mk (below_step sqH hb); (try clear hb); obtain ⟨z0, z1, z2, z3, z4, z5, z6, z7, y0, y1, y2, y3, y4, y5, y6, y7⟩ := box8 BK140.out; have p142 : 0 ≤ (0 : Int) := (by omega); have q142 : 0 < (l0_4.length : Int) := sqD; obtain ⟨ad142, e142, hx142_0⟩ := Kd.at_int HR0_4.out 0 p142 q142; cases e142; have qi142 : (0 < l0_4.length) = True := eq_true (by omega); (try rw [show ((0 : Int)).toNat = 0 from rfl] at hx142_0); (try rw [Addr.add_zero'] at hx142_0); replace hx142_0 := (HB.out.cell (World.block_lt_of_cell? w _ hx142_0)).trans hx142_0; replace p142 := eq_true p142; replace q142 := eq_true q142) | (go_at_call 102; (with_reducible refine (scalar_Valid.calls (rd l0_4 0) false _ A6.out).mono ?_); rintro e w' ⟨rfl, ⟨nd, rfl⟩⟩; (try first | exact ⟨rfl, _, World.drewN_drewN _ _ _⟩ | exact ⟨rfl, _, Eq.trans (World.drewN_drewN _ _ _) (congrArg (World.drewN _) (Nat.add_assoc _ _ _))⟩)))
  repeat (go_quiet (first | (go_at_call 76; (with_reducible refine (table_between.calls a0_0 a0_1 a0_2 a0_3 _ _ l0_4 a0_5 a0_6 a0_7 1 64 true _ ?side1 ?side2 A2.out).mono ?_); (case side1 => exact sqC (Kd.C_below HR0_4.out HB.out)); (case side2 => exact HC0_4.out); rintro e w20 ⟨rfl, hb⟩; replace BK140 := Aside0.mk (sqM BK140.out hb); replace HB := Aside0.mk (below_step sqH hb); (try clear hb); obtain ⟨z0, z1, z2, z3, z4, z5, z6, z7, y0, y1, y2, y3, y4, y5, y6, y7⟩ := box8 BK140.out; have p142 : 0 ≤ (0 : Int) := (by omega); have q142 : 0 < (l0_4.length : Int) := sqD; obtain ⟨ad142, e142, hx142_0⟩ := Kd.at_int HR0_4.out 0 p142 q142; cases e142; have qi142 : (0 < l0_4.length) = True := eq_true (by omega); (try rw [show ((0 : Int)).toNat = 0 from rfl] at hx142_0); (try rw [Addr.add_zero'] at hx142_0); replace hx142_0 := (HB.out.cell (World.block_lt_of_cell? w _ hx142_0)).trans hx142_0; replace p142 := eq_true p142; replace q142 := eq_true q142) | (go_at_call 102; (with_reducible refine (scalar_Valid.calls (rd l0_4 0) false _ A6.out).mono ?_); rintro e w' ⟨rfl, ⟨nd, rfl⟩⟩; (try first | exact ⟨rfl, _, World.drewN_drewN _ _ _⟩ | exact ⟨rfl, _, Eq.trans (World.drewN_drewN _ _ _) (congrArg (World.drewN _) (Nat.add_assoc _ _ _))⟩))); try go_wp2_with (first | (go_at_call 76; (with_reducible refine (table_between.calls a0_0 a0_1 a0_2 a0_3 _ _ l0_4 a0_5 a0_6 a0_7 1 64 true _ ?side1 ?side2 A2.out).mono ?_); (case side1 => exact sqC (Kd.C_below HR0_4.out HB.out)); (case side2 => exact HC0_4.out); rintro e w20 ⟨rfl, hb⟩; replace BK140 := Aside0.mk (sqM BK140.out hb); replace HB := Aside0.mk (below_step sqH hb); (try clear hb); obtain ⟨z0, z1, z2, z3, z4, z5, z6, z7, y0, y1, y2, y3, y4, y5, y6, y7⟩ := box8 BK140.out; have p142 : 0 ≤ (0 : Int) := (by omega); have q142 : 0 < (l0_4.length : Int) := sqD; obtain ⟨ad142, e142, hx142_0⟩ := Kd.at_int HR0_4.out 0 p142 q142; cases e142; have qi142 : (0 < l0_4.length) = True := eq_true (by omega); (try rw [show ((0 : Int)).toNat = 0 from rfl] at hx142_0); (try rw [Addr.add_zero'] at hx142_0); replace hx142_0 := (HB.out.cell (World.block_lt_of_cell? w _ hx142_0)).trans hx142_0; replace p142 := eq_true p142; replace q142 := eq_true q142) | (go_at_call 102; (with_reducible refine (scalar_Valid.calls (rd l0_4 0) false _ A6.out).mono ?_); rintro e w' ⟨rfl, ⟨nd, rfl⟩⟩; (try first | exact ⟨rfl, _, World.drewN_drewN _ _ _⟩ | exact ⟨rfl, _, Eq.trans (World.drewN_drewN _ _ _) (congrArg (World.drewN _) (Nat.add_assoc _ _ _))⟩))))
  go_ret
  exact ⟨sqE', sqH⟩
 subst c7
 rw [if_pos rfl] at H
 obtain ⟨t145, A8, H⟩ := sqO H
 try dsimp only at H
 by_cases c9 : t145 = true
 ·subst c9
  rw [if_pos rfl] at H
  obtain rfl := Option.some.inj H
  go_wp2_with (first | (go_at_call 76; (with_reducible refine (table_between.calls a0_0 a0_1 a0_2 a0_3 _ _ l0_4 a0_5 a0_6 a0_7 1 64 true _ ?side1 ?side2 A2.out).mono ?_); (case side1 => exact sqC (Kd.C_below HR0_4.out HB.out)); (case side2 => exact HC0_4.out); rintro e w12 ⟨rfl, hb⟩; replace BK140 := Aside0.mk (sqM BK140.out hb); replace HB := Aside0.mk (below_step sqH hb); (try clear hb); obtain ⟨z0, z1, z2, z3, z4, z5, z6, z7, y0, y1, y2, y3, y4, y5, y6, y7⟩ := box8 BK140.out; have p142 : 0 ≤ (0 : Int) := (by omega); have q142 : 0 < (l0_4.length : Int) := sqD; obtain ⟨ad142, e142, hx142_0⟩ := Kd.at_int HR0_4.out 0 p142 q142; cases e142; have qi142 : (0 < l0_4.length) = True := eq_true (by omega); (try rw [show ((0 : Int)).toNat = 0 from rfl] at hx142_0); (try rw [Addr.add_zero'] at hx142_0); replace hx142_0 := (HB.out.cell (World.block_lt_of_cell? w _ hx142_0)).trans hx142_0; replace p142 := eq_true p142; replace q142 := eq_true q142) | (go_at_call 102; (with_reducible refine (scalar_Valid.calls (rd l0_4 0) true _ A6.out).mono ?_); rintro e w' ⟨rfl, ⟨nd, rfl⟩⟩; (try first | exact ⟨rfl, _, World.drewN_drewN _ _ _⟩ | exact ⟨rfl, _, Eq.trans (World.drewN_drewN _ _ _) (congrArg (World.drewN _) (Nat.add_assoc _ _ _))⟩); have p144 : 0 ≤ (0 : Int) := (by omega); have q144 : 0 < (l0_4.length : Int) := sqD; obtain ⟨ad144, e144, hx144_0⟩ := Kd.at_int HR0_4.out 0 p144 q144; obtain rfl : ad142 = ad144 := (by injection e144); have qi144 : (0 < l0_4.length) = True := eq_true (by omega); (try rw [show ((0 : Int)).toNat = 0 from rfl] at hx144_0); (try rw [Addr.add_zero'] at hx144_0); replace hx144_0 := (HB.out.cell (World.block_lt_of_cell? w _ hx144_0)).trans hx144_0; replace p144 := eq_true p144; replace q144 := eq_true q144) | (go_at_call 102; (with_reducible refine (scalar_Valid.calls (wrap32 ((rd l0_4 0) + (wrap32 (wrap64 (a0_2 - a0_1))))) true _ A8.out).mono ?_); rintro e w' ⟨rfl, ⟨nd, rfl⟩⟩; (try first | exact ⟨rfl, _, World.drewN_drewN _ _ _⟩ | exact ⟨rfl, _, Eq.trans (World.drewN_drewN _ _ _) (congrArg (World.drewN _) (Nat.add_assoc _ _ _))⟩); have p146 : 0 ≤ (0 : Int) := (by omega); have q146 : 0 < (l0_4.length : Int) := sqD; obtain ⟨ad146, e146, hx146_0⟩ := Kd.at_int HR0_4.out 0 p146 q146; obtain rfl : ad142 = ad146 := (by injection e146); have qi146 : (0 < l0_4.length) = True := eq_true (by omega); (try rw [show ((0 : Int)).toNat = 0 from rfl] at hx146_0); (try rw [Addr.add_zero'] at hx146_0); replace hx146_0 := (HB.out.cell (World.block_lt_of_cell? w _ hx146_0)).trans hx146_0; replace p146 := eq_true p146; replace q146 := eq_true q146))
  repeat (go_quiet (first | (go_at_call 76; (with_reducible refine (table_between.calls a0_0 a0_1 a0_2 a0_3 _ _ l0_4 a0_5 a0_6 a0_7 1 64 true _ ?side1 ?side2 A2.out).mono ?_); (case side1 => exact sqC (Kd.C_below HR0_4.out HB.out)); (case side2 => exact HC0_4.out); rintro e w12 ⟨rfl, hb⟩; replace BK140 := Aside0.mk (sqM BK140.out hb); replace HB := Aside0.mk (below_step sqH hb); (try clear hb); obtain ⟨z0, z1, z2, z3, z4, z5, z6, z7, y0, y1, y2, y3, y4, y5, y6, y7⟩ := box8 BK140.out; have p142 : 0 ≤ (0 : Int) := (by omega); have q142 : 0 < (l0_4.length : Int) := sqD; obtain ⟨ad142, e142, hx142_0⟩ := Kd.at_int HR0_4.out 0 p142 q142; cases e142; have qi142 : (0 < l0_4.length) = True := eq_true (by omega); (try rw [show ((0 : Int)).toNat = 0 from rfl] at hx142_0); (try rw [Addr.add_zero'] at hx142_0); replace hx142_0 := (HB.out.cell (World.block_lt_of_cell? w _ hx142_0)).trans hx142_0; replace p142 := eq_true p142; replace q142 := eq_true q142) | (go_at_call 102; (with_reducible refine (scalar_Valid.calls (rd l0_4 0) true _ A6.out).mono ?_); rintro e w' ⟨rfl, ⟨nd, rfl⟩⟩; (try first | exact ⟨rfl, _, World.drewN_drewN _ _ _⟩ | exact ⟨rfl, _, Eq.trans (World.drewN_drewN _ _ _) (congrArg (World.drewN _) (Nat.add_assoc _ _ _))⟩); have p144 : 0 ≤ (0 : Int) := (by omega); have q144 : 0 < (l0_4.length : Int) := sqD; obtain ⟨ad144, e144, hx144_0⟩ := Kd.at_int HR0_4.out 0 p144 q144; obtain rfl : ad142 = ad144 := (by injection e144); have qi144 : (0 < l0_4.length) = True := eq_true (by omega); (try rw [show ((0 : Int)).toNat = 0 from rfl] at hx144_0); (try rw [Addr.add_zero'] at hx144_0); replace hx144_0 := (HB.out.cell (World.block_lt_of_cell? w _ hx144_0)).trans hx144_0; replace p144 := eq_true p144; replace q144 := eq_true q144) | (go_at_call 102; (with_reducible refine (scalar_Valid.calls (wrap32 ((rd l0_4 0) + (wrap32 (wrap64 (a0_2 - a0_1))))) true _ A8.out).mono ?_); rintro e w' ⟨rfl, ⟨nd, rfl⟩⟩; (try first | exact ⟨rfl, _, World.drewN_drewN _ _ _⟩ | exact ⟨rfl, _, Eq.trans (World.drewN_drewN _ _ _) (congrArg (World.drewN _) (Nat.add_assoc _ _ _))⟩); have p146 : 0 ≤ (0 : Int) := (by omega); have q146 : 0 < (l0_4.length : Int) := sqD; obtain ⟨ad146, e146, hx146_0⟩ := Kd.at_int HR0_4.out 0 p146 q146; obtain rfl : ad142 = ad146 := (by injection e146); have qi146 : (0 < l0_4.length) = True := eq_true (by omega); (try rw [show ((0 : Int)).toNat = 0 from rfl] at hx146_0); (try rw [Addr.add_zero'] at hx146_0); replace hx146_0 := (HB.out.cell (World.block_lt_of_cell? w _ hx146_0)).trans hx146_0; replace p146 := eq_true p146; replace q146 := eq_true q146)); try go_wp2_with (first | (go_at_call 76; (with_reducible refine (table_between.calls a0_0 a0_1 a0_2 a0_3 _ _ l0_4 a0_5 a0_6 a0_7 1 64 true _ ?side1 ?side2 A2.out).mono ?_); (case side1 => exact sqC (Kd.C_below HR0_4.out HB.out)); (case side2 => exact HC0_4.out); rintro e w12 ⟨rfl, hb⟩; replace BK140 := Aside0.mk (sqM BK140.out hb); replace HB := Aside0.mk (below_step sqH hb); (try clear hb); obtain ⟨z0, z1, z2, z3, z4, z5, z6, z7, y0, y1, y2, y3, y4, y5, y6, y7⟩ := box8 BK140.out; have p142 : 0 ≤ (0 : Int) := (by omega); have q142 : 0 < (l0_4.length : Int) := sqD; obtain ⟨ad142, e142, hx142_0⟩ := Kd.at_int HR0_4.out 0 p142 q142; cases e142; have qi142 : (0 < l0_4.length) = True := eq_true (by omega); (try rw [show ((0 : Int)).toNat = 0 from rfl] at hx142_0); (try rw [Addr.add_zero'] at hx142_0); replace hx142_0 := (HB.out.cell (World.block_lt_of_cell? w _ hx142_0)).trans hx142_0; replace p142 := eq_true p142; replace q142 := eq_true q142) | (go_at_call 102; (with_reducible refine (scalar_Valid.calls (rd l0_4 0) true _ A6.out).mono ?_); rintro e w' ⟨rfl, ⟨nd, rfl⟩⟩; (try first | exact ⟨rfl, _, World.drewN_drewN _ _ _⟩ | exact ⟨rfl, _, Eq.trans (World.drewN_drewN _ _ _) (congrArg (World.drewN _) (Nat.add_assoc _ _ _))⟩); have p144 : 0 ≤ (0 : Int) := (by omega); have q144 : 0 < (l0_4.length : Int) := sqD; obtain ⟨ad144, e144, hx144_0⟩ := Kd.at_int HR0_4.out 0 p144 q144; obtain rfl : ad142 = ad144 := (by injection e144); have qi144 : (0 < l0_4.length) = True := eq_true (by omega); (try rw [show ((0 : Int)).toNat = 0 from rfl] at hx144_0); (try rw [Addr.add_zero'] at hx144_0); replace hx144_0 := (HB.out.cell (World.block_lt_of_cell? w _ hx144_0)).trans hx144_0; replace p144 := eq_true p144; replace q144 := eq_true q144) | (go_at_call 102; (with_reducible refine (scalar_Valid.calls (wrap32 ((rd l0_4 0) + (wrap32 (wrap64 (a0_2 - a0_1))))) true _ A8.out).mono ?_); rintro e w' ⟨rfl, ⟨nd, rfl⟩⟩; (try first | exact ⟨rfl, _, World.drewN_drewN _ _ _⟩ | exact ⟨rfl, _, Eq.trans (World.drewN_drewN _ _ _) (congrArg (World.drewN _) (Nat.add_assoc _ _ _))⟩); have p146 : 0 ≤ (0 : Int) := (by omega); have q146 : 0 < (l0_4.length : Int) := sqD; obtain ⟨ad146, e146, hx146_0⟩ := Kd.at_int HR0_4.out 0 p146 q146; obtain rfl : ad142 = ad146 := (by injection e146); have qi146 : (0 < l0_4.length) = True := eq_true (by omega); (try rw [show ((0 : Int)).toNat = 0 from rfl] at hx146_0); (try rw [Addr.add_zero'] at hx146_0); replace hx146_0 := (HB.out.cell (World.block_lt_of_cell? w _ hx146_0)).trans hx146_0; replace p146 := eq_true p146; replace q146 := eq_true q146)))
  go_ret
  exact ⟨sqE', sqH⟩
 replace c9 := Bool.eq_false_iff.mpr c9
 subst c9
 rw [if_neg (show ¬ (false = true) by decide)] at H
 obtain rfl := Option.some.inj H
 go_wp2_with (first | (go_at_call 76; (with_reducible refine (table_between.calls a0_0 a0_1 a0_2 a0_3 _ _ l0_4 a0_5 a0_6 a0_7 1 64 true _ ?side1 ?side2 A2.out).mono ?_); (case side1 => exact sqC (Kd.C_below HR0_4.out HB.out)); (case side2 => exact HC0_4.out); rintro e w16 ⟨rfl, hb⟩; replace BK140 := Aside0.mk (sqM BK140.out hb); replace HB := Aside0.mk (below_step sqH hb); (try clear hb); obtain ⟨z0, z1, z2, z3, z4, z5, z6, z7, y0, y1, y2, y3, y4, y5, y6, y7⟩ := box8 BK140.out; have p142 : 0 ≤ (0 : Int) := (by omega); have q142 : 0 < (l0_4.length : Int) := sqD; obtain ⟨ad142, e142, hx142_0⟩ := Kd.at_int HR0_4.out 0 p142 q142; cases e142; have qi142 : (0 < l0_4.length) = True := eq_true (by omega); (try rw [show ((0 : Int)).toNat = 0 from rfl] at hx142_0); (try rw [Addr.add_zero'] at hx142_0); replace hx142_0 := (HB.out.cell (World.block_lt_of_cell? w _ hx142_0)).trans hx142_0; replace p142 := eq_true p142; replace q142 := eq_true q142) | (go_at_call 102; (with_reducible refine (scalar_Valid.calls (rd l0_4 0) true _ A6.out).mono ?_); rintro e w' ⟨rfl, ⟨nd, rfl⟩⟩; (try first | exact ⟨rfl, _, World.drewN_drewN _ _ _⟩ | exact ⟨rfl, _, Eq.trans (World.drewN_drewN _ _ _) (congrArg (World.drewN _) (Nat.add_assoc _ _ _))⟩); have p144 : 0 ≤ (0 : Int) := (by omega); have q144 : 0 < (l0_4.length : Int) := sqD; obtain ⟨ad144, e144, hx144_0⟩ := Kd.at_int HR0_4.out 0 p144 q144; obtain rfl : ad142 = ad144 := (by injection e144); have qi144 : (0 < l0_4.length) = True := eq_true (by omega); (try rw [show ((0 : Int)).toNat = 0 from rfl] at hx144_0); (try rw [Addr.add_zero'] at hx144_0); replace hx144_0 := (HB.out.cell (World.block_lt_of_cell? w _ hx144_0)).trans hx144_0; replace p144 := eq_true p144; replace q144 := eq_true q144) | (go_at_call 102; (with_reducible refine (scalar_Valid.calls (wrap32 ((rd l0_4 0) + (wrap32 (wrap64 (a0_2 - a0_1))))) false _ A8.out).mono ?_); rintro e w' ⟨rfl, ⟨nd, rfl⟩⟩; (try first | exact ⟨rfl, _, World.drewN_drewN _ _ _⟩ | exact ⟨rfl, _, Eq.trans (World.drewN_drewN _ _ _) (congrArg (World.drewN _) (Nat.add_assoc _ _ _))⟩)))
 repeat (go_quiet (first | (go_at_call 76; (with_reducible refine (table_between.calls a0_0 a0_1 a0_2 a0_3 _ _ l0_4 a0_5 a0_6 a0_7 1 64 true _ ?side1 ?side2 A2.out).mono ?_); (case side1 => exact sqC (Kd.C_below HR0_4.out HB.out)); (case side2 => exact HC0_4.out); rintro e w16 ⟨rfl, hb⟩; replace BK140 := Aside0.mk (sqM BK140.out hb); replace HB := Aside0.mk (below_step sqH hb); (try clear hb); obtain ⟨z0, z1, z2, z3, z4, z5, z6, z7, y0, y1, y2, y3, y4, y5, y6, y7⟩ := box8 BK140.out; have p142 : 0 ≤ (0 : Int) := (by omega); have q142 : 0 < (l0_4.length : Int) := sqD; obtain ⟨ad142, e142, hx142_0⟩ := Kd.at_int HR0_4.out 0 p142 q142; cases e142; have qi142 : (0 < l0_4.length) = True := eq_true (by omega); (try rw [show ((0 : Int)).toNat = 0 from rfl] at hx142_0); (try rw [Addr.add_zero'] at hx142_0); replace hx142_0 := (HB.out.cell (World.block_lt_of_cell? w _ hx142_0)).trans hx142_0; replace p142 := eq_true p142; replace q142 := eq_true q142) | (go_at_call 102; (with_reducible refine (scalar_Valid.calls (rd l0_4 0) true _ A6.out).mono ?_); rintro e w' ⟨rfl, ⟨nd, rfl⟩⟩; (try first | exact ⟨rfl, _, World.drewN_drewN _ _ _⟩ | exact ⟨rfl, _, Eq.trans (World.drewN_drewN _ _ _) (congrArg (World.drewN _) (Nat.add_assoc _ _ _))⟩); have p144 : 0 ≤ (0 : Int) := (by omega); have q144 : 0 < (l0_4.length : Int) := sqD; obtain ⟨ad144, e144, hx144_0⟩ := Kd.at_int HR0_4.out 0 p144 q144; obtain rfl : ad142 = ad144 := (by injection e144); have qi144 : (0 < l0_4.length) = True := eq_true (by omega); (try rw [show ((0 : Int)).toNat = 0 from rfl] at hx144_0); (try rw [Addr.add_zero'] at hx144_0); replace hx144_0 := (HB.out.cell (World.block_lt_of_cell? w _ hx144_0)).trans hx144_0; replace p144 := eq_true p144; replace q144 := eq_true q144) | (go_at_call 102; (with_reducible refine (scalar_Valid.calls (wrap32 ((rd l0_4 0) + (wrap32 (wrap64 (a0_2 - a0_1))))) false _ A8.out).mono ?_); rintro e w' ⟨rfl, ⟨nd, rfl⟩⟩; (try first | exact ⟨rfl, _, World.drewN_drewN _ _ _⟩ | exact ⟨rfl, _, Eq.trans (World.drewN_drewN _ _ _) (congrArg (World.drewN _) (Nat.add_assoc _ _ _))⟩))); try go_wp2_with (first | (go_at_call 76; (with_reducible refine (table_between.calls a0_0 a0_1 a0_2 a0_3 _ _ l0_4 a0_5 a0_6 a0_7 1 64 true _ ?side1 ?side2 A2.out).mono ?_); (case side1 => exact sqC (Kd.C_below HR0_4.out HB.out)); (case side2 => exact HC0_4.out); rintro e w16 ⟨rfl, hb⟩; replace BK140 := Aside0.mk (sqM BK140.out hb); replace HB := Aside0.mk (below_step sqH hb); (try clear hb); obtain ⟨z0, z1, z2, z3, z4, z5, z6, z7, y0, y1, y2, y3, y4, y5, y6, y7⟩ := box8 BK140.out; have p142 : 0 ≤ (0 : Int) := (by omega); have q142 : 0 < (l0_4.length : Int) := sqD; obtain ⟨ad142, e142, hx142_0⟩ := Kd.at_int HR0_4.out 0 p142 q142; cases e142; have qi142 : (0 < l0_4.length) = True := eq_true (by omega); (try rw [show ((0 : Int)).toNat = 0 from rfl] at hx142_0); (try rw [Addr.add_zero'] at hx142_0); replace hx142_0 := (HB.out.cell (World.block_lt_of_cell? w _ hx142_0)).trans hx142_0; replace p142 := eq_true p142; replace q142 := eq_true q142) | (go_at_call 102; (with_reducible refine (scalar_Valid.calls (rd l0_4 0) true _ A6.out).mono ?_); rintro e w' ⟨rfl, ⟨nd, rfl⟩⟩; (try first | exact ⟨rfl, _, World.drewN_drewN _ _ _⟩ | exact ⟨rfl, _, Eq.trans (World.drewN_drewN _ _ _) (congrArg (World.drewN _) (Nat.add_assoc _ _ _))⟩); have p144 : 0 ≤ (0 : Int) := (by omega); have q144 : 0 < (l0_4.length : Int) := sqD; obtain ⟨ad144, e144, hx144_0⟩ := Kd.at_int HR0_4.out 0 p144 q144; obtain rfl : ad142 = ad144 := (by injection e144); have qi144 : (0 < l0_4.length) = True := eq_true (by omega); (try rw [show ((0 : Int)).toNat = 0 from rfl] at hx144_0); (try rw [Addr.add_zero'] at hx144_0); replace hx144_0 := (HB.out.cell (World.block_lt_of_cell? w _ hx144_0)).trans hx144_0; replace p144 := eq_true p144; replace q144 := eq_true q144) | (go_at_call 102; (with_reducible refine (scalar_Valid.calls (wrap32 ((rd l0_4 0) + (wrap32 (wrap64 (a0_2 - a0_1))))) false _ A8.out).mono ?_); rintro e w' ⟨rfl, ⟨nd, rfl⟩⟩; (try first | exact ⟨rfl, _, World.drewN_drewN _ _ _⟩ | exact ⟨rfl, _, Eq.trans (World.drewN_drewN _ _ _) (congrArg (World.drewN _) (Nat.add_assoc _ _ _))⟩))))
 go_ret
 exact ⟨sqE', sqH⟩
def table_one.f (a0_0 : Int) (a0_1 : Int) (a0_2 : Int) (a0_3 : Int) (l0_4 : List Int) (a0_5 : ByteArray) (a0_6 : ByteArray) (a0_7 : Nat) : Option (Bool) := if a0_1 = a0_2 then ((scalar_Valid.f (wrap32 (a0_1))).bind fun t148 => (some t148)) else (some false)
theorem table_one.calls (a0_0 : Int) (a0_1 : Int) (a0_2 : Int) (a0_3 : Int) (A0_4 : Option Addr) (c0_4 : Nat) (l0_4 : List Int) (a0_5 : ByteArray) (a0_6 : ByteArray) (a0_7 : Nat) (r : Bool) (w : World) (hr0_4 : Kd.C (Kd.int .i32) w A0_4 l0_4.length l0_4) (hc0_4 : l0_4.length ≤ c0_4) (h : table_one.f a0_0 a0_1 a0_2 a0_3 l0_4 a0_5 a0_6 a0_7 = some r) :
  Calls Tryz.prog 75 #[.agg #[.int .i64 a0_0, .int .i64 a0_1, .int .i64 a0_2, .int .i64 a0_3, .slice A0_4 l0_4.length c0_4, .string a0_5, .string a0_6, .float .f64 a0_7]] w fun e w' => e = .returned (.bool r) ∧ Below w.heap.size w w' := by
 have hu25 := Tryz.underlying25
 have HR0_4 := Aside0.mk hr0_4
 have HC0_4 := Aside0.mk hc0_4
 clear hr0_4 hc0_4
 have HB := Aside0.mk (Below.refl w.heap.size w)
 have H : (if a0_1 = a0_2 then ((scalar_Valid.f (wrap32 (a0_1))).bind fun t148 => (some t148)) else (some false)) = some r := h
 clear h
 by_cases c2 : a0_1 = a0_2
 case neg =>
  rw [if_neg c2] at H
  have c2b0 := beq_eq_false_iff_ne.mpr c2
  have c2b1 := bne_iff_ne.mpr c2
  obtain rfl := Option.some.inj H
  go_enter Tryz.func75, Tryz.ntmps75
  go_wp2_with (first | ((with_reducible refine gate_dst (N := 1) rfl ?_); refine box_event ?hg (N := 1) ?hd (cs := #[.int .i64 a0_0, .int .i64 a0_1, .int .i64 a0_2, .int .i64 a0_3, .slice A0_4 l0_4.length c0_4, .string a0_5, .string a0_6, .float .f64 a0_7]) (t := 25) ?hr ?_; (case hd => rfl); (case hg => rfl); (case hr => first | (go_simp; done) | (go_simp; rfl)); intro gb147 hg w6 hbox hb; have n0_ := Aside0.mk (below_step sqB hb); have n1_ := Aside0.mk (hbox); have n2_ := Aside0.mk ((by rw [hg]; exact (below_size sqB) : w.heap.size ≤ gb147)); have n3_ := Aside0.mk ((by rw [hg]; exact (below_size sqB) : w.heap.size ≤ gb147)); clear HB; have HB := n0_; have BK147 := n1_; have GW147 := n2_; have GE147 := n3_; clear n0_ n1_ n2_ n3_; clear hb hbox hg; obtain ⟨z0, z1, z2, z3, z4, z5, z6, z7, y0, y1, y2, y3, y4, y5, y6, y7⟩ := box8 BK147.out))
  go_ret
  exact ⟨sqE', sqH⟩
 rw [if_pos c2] at H
 have c2b0 := beq_iff_eq.mpr c2
 have c2b1 := bne_eq_false_iff_eq.mpr c2
 clear c2
 obtain ⟨t148, A3, H⟩ := sqO H
 try dsimp only at H
 obtain rfl := Option.some.inj H
 go_enter Tryz.func75, Tryz.ntmps75
 go_wp2_with (first | ((with_reducible refine gate_dst (N := 1) rfl ?_); refine box_event ?hg (N := 1) ?hd (cs := #[.int .i64 a0_0, .int .i64 a0_1, .int .i64 a0_2, .int .i64 a0_3, .slice A0_4 l0_4.length c0_4, .string a0_5, .string a0_6, .float .f64 a0_7]) (t := 25) ?hr ?_; (case hd => rfl); (case hg => rfl); (case hr => first | (go_simp; done) | (go_simp; rfl)); intro gb147 hg w4 hbox hb; have n0_ := Aside0.mk (below_step sqB hb); have n1_ := Aside0.mk (hbox); have n2_ := Aside0.mk ((by rw [hg]; exact (below_size sqB) : w.heap.size ≤ gb147)); have n3_ := Aside0.mk ((by rw [hg]; exact (below_size sqB) : w.heap.size ≤ gb147)); clear HB; have HB := n0_; have BK147 := n1_; have GW147 := n2_; have GE147 := n3_; clear n0_ n1_ n2_ n3_; clear hb hbox hg; obtain ⟨z0, z1, z2, z3, z4, z5, z6, z7, y0, y1, y2, y3, y4, y5, y6, y7⟩ := box8 BK147.out) | (go_at_call 102; (with_reducible refine (scalar_Valid.calls (wrap32 (a0_1)) t148 _ A3.out).mono ?_); rintro e w' ⟨rfl, ⟨nd, rfl⟩⟩))
 go_ret
 exact ⟨sqE', sqH⟩
mutual
def scan_Name.j0 : Nat → ByteArray → Bool → Option (Bool)
 | 0, _, _ => none
 | k + 1, x0, x16 => if x16 = true then (some false) else (scan_Name.l0 k x0 1)
def scan_Name.l0 : Nat → ByteArray → Int → Option (Bool)
 | 0, _, _ => none
 | k + 1, x0, x3 => if x3 < 4 then (if 0 ≤ x3 then (if x3 < (x0.size : Int) then (if (bt x0 x3) < 97 then (some false) else (if (bt x0 x3) > 122 then (some false) else (scan_Name.l0 k x0 (wrap64 (x3 + 1))))) else (none)) else (none)) else (some true)
end
def scan_Name.f (k : Nat) (a0 : ByteArray) : Option (Bool) := if (a0.size : Int) = 4 then (if 0 < (a0.size : Int) then (if (bt a0 0) < 65 then (scan_Name.j0 k a0 true) else (scan_Name.j0 k a0 (decide ((bt a0 0) > 90)))) else (none)) else (scan_Name.j0 k a0 true)
theorem scan_Name.mono_l : ∀ k, (∀ y0 y1, LeO (scan_Name.j0 k y0 y1) (scan_Name.j0 (k + 1) y0 y1)) ∧ (∀ y0 y1, LeO (scan_Name.l0 k y0 y1) (scan_Name.l0 (k + 1) y0 y1))
 | 0 => ⟨fun _ _ r h => by simp [scan_Name.j0] at h, fun _ _ r h => by simp [scan_Name.l0] at h⟩
 | k + 1 => by
  obtain ⟨ih0, ih1⟩ := scan_Name.mono_l k
  refine ⟨?_, ?_⟩
  ·intro y0 y1
   unfold scan_Name.j0
   repeat' first | (with_reducible first | apply ih0 | apply ih1 | apply LeO.refl | apply LeO.none | refine LeO.ite ?_ ?_ | refine LeO.bind ?_ (fun _ => ?_)) | apply LeO.none | refine LeO.ite ?_ ?_ | refine LeO.bind ?_ (fun _ => ?_)
  intro y0 y1
  unfold scan_Name.l0
  repeat' first | (with_reducible first | apply ih0 | apply ih1 | apply LeO.refl | apply LeO.none | refine LeO.ite ?_ ?_ | refine LeO.bind ?_ (fun _ => ?_)) | apply LeO.none | refine LeO.ite ?_ ?_ | refine LeO.bind ?_ (fun _ => ?_)
theorem scan_Name.mono : ∀ a0 k, LeO (scan_Name.f k a0) (scan_Name.f (k + 1) a0) := by
 intro a0 k
 obtain ⟨ih0, ih1⟩ := scan_Name.mono_l k
 unfold scan_Name.f
 repeat' first | (with_reducible first | apply ih0 | apply ih1 | apply LeO.refl | apply LeO.none | refine LeO.ite ?_ ?_ | refine LeO.bind ?_ (fun _ => ?_)) | apply LeO.none | refine LeO.ite ?_ ?_ | refine LeO.bind ?_ (fun _ => ?_)
theorem scan_Name.calls (k : Nat) (a0 : ByteArray) (r : Bool) (w : World) (h : scan_Name.f k a0 = some r) :
  Calls Tryz.prog 77 #[.string a0] w fun e w' => e = .returned (.bool r) ∧ Drawn0 w w' := by
 have H : (if (a0.size : Int) = 4 then (if 0 < (a0.size : Int) then (if (bt a0 0) < 65 then (scan_Name.j0 k a0 true) else (scan_Name.j0 k a0 (decide ((bt a0 0) > 90)))) else (none)) else (scan_Name.j0 k a0 true)) = some r := h
 clear h
 have HC2 := Aside0.mk H
 clear H
 go_enter Tryz.func77, Tryz.ntmps77
 go_upto_region 1 with (fail)
 go_cut [16] (fun v16 wc => ∃ (kq : Nat) (x16_1 : Bool), v16 = .bool x16_1 ∧ Aside0 (scan_Name.j0 kq a0 x16_1 = some r) ∧ Aside0 (kq ≤ k) ∧ Drawn0 w wc)
 case first =>
  have H := HC2.out
  clear HC2
  by_cases c3 : (a0.size : Int) = 4
  case neg =>
   rw [if_neg c3] at H
   have c3b0 := beq_eq_false_iff_ne.mpr c3
   have c3b1 := bne_iff_ne.mpr c3
   (first | rw [c3b0] | (simp only [i64_w, i32_w]; rw [c3b0]) | skip)
   have H' := Aside0.mk H
   clear H
   go_wp2
   go_meet
   case rel => exact ⟨_, (true), sqE, H', ⟨by first | omega | exact Nat.le_refl _⟩, sqW⟩
  rw [if_pos c3] at H
  have c3b0 := beq_iff_eq.mpr c3
  have c3b1 := bne_eq_false_iff_eq.mpr c3
  clear c3
  (first | rw [c3b0] | (simp only [i64_w, i32_w]; rw [c3b0]) | skip)
  by_cases c4 : 0 < (a0.size : Int)
  case neg => rw [if_neg c4] at H; exact absurd H (by simp)
  rw [if_pos c4] at H
  have c4b0 := decide_eq_true c4
  have c4b1 : decide (0 < a0.size) = true := decide_eq_true (by omega)
  clear c4
  by_cases c6 : (bt a0 0) < 65
  ·rw [if_pos c6] at H
   have c6b0 := decide_eq_true c6
   clear c6
   have H' := Aside0.mk H
   clear H
   have p5 : 0 ≤ (0 : Int) := (by omega)
   have q5 : 0 < a0.size := (by have : (0 : Int) < (a0.size : Int) := sqD; omega)
   have hx5 : ∀ h : 0 < a0.size, ((a0[0]'h).toNat : Int) = bt a0 0 := bt_at a0 0
   clear p5
   have qi5 : (0 < (a0.size : Int)) = True := eq_true sqD
   replace q5 := eq_true q5
   go_wp2
   go_meet
   case rel => exact ⟨_, (true), sqE, H', ⟨by first | omega | exact Nat.le_refl _⟩, sqW⟩
  rw [if_neg c6] at H
  have c6b0 := decide_eq_false c6
  clear c6
  have H' := Aside0.mk H
  clear H
  have p5 : 0 ≤ (0 : Int) := (by omega)
  have q5 : 0 < a0.size := (by have : (0 : Int) < (a0.size : Int) := sqD; omega)
  have hx5 : ∀ h : 0 < a0.size, ((a0[0]'h).toNat : Int) = bt a0 0 := bt_at a0 0
  clear p5
  have qi5 : (0 < (a0.size : Int)) = True := eq_true sqD
  replace q5 := eq_true q5
  have p7 : 0 ≤ (0 : Int) := (by omega)
  have q7 : 0 < a0.size := (by have : (0 : Int) < (a0.size : Int) := sqD; omega)
  have hx7 : ∀ h : 0 < a0.size, ((a0[0]'h).toNat : Int) = bt a0 0 := bt_at a0 0
  clear p7
  have qi7 : (0 < (a0.size : Int)) = True := eq_true sqD
  replace q7 := eq_true q7
  go_wp2
  go_meet
  case rel => exact ⟨_, (decide ((bt a0 0) > 90)), sqE, H', ⟨by first | omega | exact Nat.le_refl _⟩, sqW⟩
 case rest =>
  clear HC2
  obtain ⟨kq, x16_1, rfl, HA, HJ1, ⟨mc1, rfl⟩⟩ := hcut
  cases kq with
  | zero => exact absurd HA.out (by simp [scan_Name.j0])
  | succ kj1 =>
   have H := HA.out
   clear HA
   simp only [scan_Name.j0] at H
   by_cases c8 : x16_1 = true
   ·subst c8
    rw [if_pos rfl] at H
    obtain rfl := Option.some.inj H
    go_wp2
    go_ret
    exact ⟨sqE, sqW⟩
   replace c8 := Bool.eq_false_iff.mpr c8
   subst c8
   rw [if_neg (show ¬ (false = true) by decide)] at H
   have H' := Aside0.mk H
   clear H
   go_wp2
   go_loopg [3] kj1 (fun kq v3 w' => ∃ (x3_2 : Int), v3 = .int .i64 x3_2 ∧ Aside0 (scan_Name.l0 kq a0 x3_2 = some r) ∧ Aside0 (kq ≤ kj1) ∧ Drawn0 w w')
   case atStart => exact ⟨(1), sqE, H', ⟨Nat.le_refl _⟩, sqW⟩
   case round =>
    clear H'
    try clear c8
    obtain ⟨x3_2, rfl, HA, HK2, ⟨m2, rfl⟩⟩ := hrel
    cases gk with
    | zero => exact absurd HA.out (by simp [scan_Name.l0])
    | succ k2 =>
     have H := HA.out
     clear HA
     simp only [scan_Name.l0] at H
     by_cases c9 : x3_2 < 4
     case neg =>
      rw [if_neg c9] at H
      have c9b0 := decide_eq_false c9
      clear c9
      obtain rfl := Option.some.inj H
      go_wp2
      go_ret
      exact ⟨sqE, sqW⟩
     rw [if_pos c9] at H
     have c9b0 := decide_eq_true c9
     clear c9
     by_cases c10 : 0 ≤ x3_2
     case neg => rw [if_neg c10] at H; exact absurd H (by simp)
     rw [if_pos c10] at H
     have c10b0 := decide_eq_true c10
     clear c10
     by_cases c11 : x3_2 < (a0.size : Int)
     case neg => rw [if_neg c11] at H; exact absurd H (by simp)
     rw [if_pos c11] at H
     have c11b0 := decide_eq_true c11
     clear c11
     by_cases c13 : (bt a0 x3_2) < 97
     ·rw [if_pos c13] at H
      have c13b0 := decide_eq_true c13
      clear c13
      obtain rfl := Option.some.inj H
      have p12 : 0 ≤ (x3_2 : Int) := sqD
      have q12 : x3_2 < (a0.size : Int) := sqD
      have hx12 := bt_at a0 x3_2
      replace p12 := eq_true p12
      replace q12 := eq_true q12
      go_wp2
      go_ret
      exact ⟨sqE, sqW⟩
     rw [if_neg c13] at H
     have c13b0 := decide_eq_false c13
     clear c13
     by_cases c15 : (bt a0 x3_2) > 122
     ·rw [if_pos c15] at H
      have c15b0 := decide_eq_true c15
      clear c15
      obtain rfl := Option.some.inj H
      have p12 : 0 ≤ (x3_2 : Int) := sqD
      have q12 : x3_2 < (a0.size : Int) := sqD
      have hx12 := bt_at a0 x3_2
      replace p12 := eq_true p12
      replace q12 := eq_true q12
      have p14 : 0 ≤ (x3_2 : Int) := sqD
      have q14 : x3_2 < (a0.size : Int) := sqD
      have hx14 := bt_at a0 x3_2
      replace p14 := eq_true p14
      replace q14 := eq_true q14
      go_wp2
      go_ret
      exact ⟨sqE, sqW⟩
     rw [if_neg c15] at H
     have c15b0 := decide_eq_false c15
     clear c15
     have H' := Aside0.mk H
     clear H
     have p12 : 0 ≤ (x3_2 : Int) := sqD
     have q12 : x3_2 < (a0.size : Int) := sqD
     have hx12 := bt_at a0 x3_2
     replace p12 := eq_true p12
     replace q12 := eq_true q12
     have p14 : 0 ≤ (x3_2 : Int) := sqD
     have q14 : x3_2 < (a0.size : Int) := sqD
     have hx14 := bt_at a0 x3_2
     replace p14 := eq_true p14
     replace q14 := eq_true q14
     go_wp2
     go_roundg k2
     case measure => have := HJ1.out; have := HK2.out; omega
     case rel => exact ⟨(wrap64 (x3_2 + 1)), sqE, H', ⟨by have := HJ1.out; have := HK2.out; omega⟩, sqW⟩
def weigh_rank.f (a0 : Nat) : Option (Int) := if (FloatKind.f64.format.order a0 a0 != some .eq) = true then (some 9223372036854775807) else ((api_Bits.f a0).bind fun t149 => (if (wrap64 (t149)) < 0 then (some (wrap64 ((wrap64 ((-9223372036854775808) - (wrap64 (t149)))) - 1))) else (some (wrap64 (t149)))))
theorem weigh_rank.calls (a0 : Nat) (r : Int) (w : World) (h : weigh_rank.f a0 = some r) :
  Calls Tryz.prog 145 #[.float .f64 a0] w fun e w' => e = .returned (.int .i64 r) ∧ Drawn0 w w' := by
 have H : (if (FloatKind.f64.format.order a0 a0 != some .eq) = true then (some 9223372036854775807) else ((api_Bits.f a0).bind fun t149 => (if (wrap64 (t149)) < 0 then (some (wrap64 ((wrap64 ((-9223372036854775808) - (wrap64 (t149)))) - 1))) else (some (wrap64 (t149)))))) = some r := h
 clear h
 by_cases c2 : (FloatKind.f64.format.order a0 a0 != some .eq) = true
 ·rw [if_pos c2] at H
  have c2b0 : (FloatKind.f64.format.order a0 a0 != some .eq) = true := c2
  (try (have c2b1 : decide (FloatKind.f64.format.order a0 a0 = some .eq) = false := by simpa using c2))
  (try (have c2b2 : (FloatKind.f64.format.order a0 a0 == some .eq) = false := by simpa using c2))
  (try (have c2b3 : ¬ (FloatKind.f64.format.order a0 a0 = some .eq) := by simpa using c2))
  clear c2
  obtain rfl := Option.some.inj H
  go_enter Tryz.func145, Tryz.ntmps145
  go_wp2
  go_ret
  exact ⟨sqE, sqW⟩
 rw [if_neg c2] at H
 have c2b0 : (FloatKind.f64.format.order a0 a0 != some .eq) = false := by simpa using c2
 (try (have c2b1 : decide (FloatKind.f64.format.order a0 a0 = some .eq) = true := by simpa using c2))
 (try (have c2b2 : (FloatKind.f64.format.order a0 a0 == some .eq) = true := by simpa using c2))
 clear c2
 obtain ⟨t149, A3, H⟩ := sqO H
 try dsimp only at H
 by_cases c4 : (wrap64 (t149)) < 0
 ·rw [if_pos c4] at H
  have c4b0 := decide_eq_true c4
  clear c4
  obtain rfl := Option.some.inj H
  go_enter Tryz.func145, Tryz.ntmps145
  go_wp2_with (first | ((with_reducible refine gate_callee (f := 52) rfl ?_); refine goesL_ (some 8) rfl rfl Tryz.func52 (by kernel_rfl) rfl #[.float .f64 a0] rfl sqA ?_; (with_reducible refine (api_Bits.calls a0 t149 _ A3.out).mono ?_); rintro e w' ⟨rfl, ⟨nd, rfl⟩⟩; refine ⟨_, rfl, ?_⟩))
  go_ret
  exact ⟨sqE, sqW⟩
 rw [if_neg c4] at H
 have c4b0 := decide_eq_false c4
 clear c4
 obtain rfl := Option.some.inj H
 go_enter Tryz.func145, Tryz.ntmps145
 go_wp2_with (first | ((with_reducible refine gate_callee (f := 52) rfl ?_); refine goesL_ (some 8) rfl rfl Tryz.func52 (by kernel_rfl) rfl #[.float .f64 a0] rfl sqA ?_; (with_reducible refine (api_Bits.calls a0 t149 _ A3.out).mono ?_); rintro e w' ⟨rfl, ⟨nd, rfl⟩⟩; refine ⟨_, rfl, ?_⟩))
 go_ret
 exact ⟨sqE, sqW⟩
def weigh_Order.f (a0 : Nat) (a1 : Nat) : Option (Int) := (weigh_rank.f a0).bind fun t150 => ((weigh_rank.f a1).bind fun t151 => (if t150 < t151 then (some (-1)) else (if t150 > t151 then (some 1) else (some 0))))
theorem weigh_Order.calls (a0 : Nat) (a1 : Nat) (r : Int) (w : World) (h : weigh_Order.f a0 a1 = some r) :
  Calls Tryz.prog 103 #[.float .f64 a0, .float .f64 a1] w fun e w' => e = .returned (.int .i64 r) ∧ Drawn0 w w' := by
 have H : ((weigh_rank.f a0).bind fun t150 => ((weigh_rank.f a1).bind fun t151 => (if t150 < t151 then (some (-1)) else (if t150 > t151 then (some 1) else (some 0))))) = some r := h
 clear h
 obtain ⟨t150, A3, H⟩ := sqO H
 try dsimp only at H
 obtain ⟨t151, A4, H⟩ := sqO H
 try dsimp only at H
 by_cases c5 : t150 < t151
 ·rw [if_pos c5] at H
  have c5b0 := decide_eq_true c5
  clear c5
  obtain rfl := Option.some.inj H
  go_enter Tryz.func103, Tryz.ntmps103
  go_wp2_with (first | ((with_reducible refine gate_callee (f := 145) rfl ?_); refine goesL_ (some 8) rfl rfl Tryz.func145 (by kernel_rfl) rfl #[.float .f64 a0] rfl sqA ?_; (with_reducible refine (weigh_rank.calls a0 t150 _ A3.out).mono ?_); rintro e w' ⟨rfl, ⟨nd, rfl⟩⟩; refine ⟨_, rfl, ?_⟩) | ((with_reducible refine gate_callee (f := 145) rfl ?_); refine goesL_ (some 10) rfl rfl Tryz.func145 (by kernel_rfl) rfl #[.float .f64 a1] rfl sqA ?_; (with_reducible refine (weigh_rank.calls a1 t151 _ A4.out).mono ?_); rintro e w' ⟨rfl, ⟨nd, rfl⟩⟩; refine ⟨_, rfl, ?_⟩))
  go_ret
  exact ⟨sqE, sqW⟩
 rw [if_neg c5] at H
 have c5b0 := decide_eq_false c5
 clear c5
 by_cases c6 : t150 > t151
 ·rw [if_pos c6] at H
  have c6b0 := decide_eq_true c6
  clear c6
  obtain rfl := Option.some.inj H
  go_enter Tryz.func103, Tryz.ntmps103
  go_wp2_with (first | ((with_reducible refine gate_callee (f := 145) rfl ?_); refine goesL_ (some 8) rfl rfl Tryz.func145 (by kernel_rfl) rfl #[.float .f64 a0] rfl sqA ?_; (with_reducible refine (weigh_rank.calls a0 t150 _ A3.out).mono ?_); rintro e w' ⟨rfl, ⟨nd, rfl⟩⟩; refine ⟨_, rfl, ?_⟩) | ((with_reducible refine gate_callee (f := 145) rfl ?_); refine goesL_ (some 10) rfl rfl Tryz.func145 (by kernel_rfl) rfl #[.float .f64 a1] rfl sqA ?_; (with_reducible refine (weigh_rank.calls a1 t151 _ A4.out).mono ?_); rintro e w' ⟨rfl, ⟨nd, rfl⟩⟩; refine ⟨_, rfl, ?_⟩))
  go_ret
  exact ⟨sqE, sqW⟩
 rw [if_neg c6] at H
 have c6b0 := decide_eq_false c6
 clear c6
 obtain rfl := Option.some.inj H
 go_enter Tryz.func103, Tryz.ntmps103
 go_wp2_with (first | ((with_reducible refine gate_callee (f := 145) rfl ?_); refine goesL_ (some 8) rfl rfl Tryz.func145 (by kernel_rfl) rfl #[.float .f64 a0] rfl sqA ?_; (with_reducible refine (weigh_rank.calls a0 t150 _ A3.out).mono ?_); rintro e w' ⟨rfl, ⟨nd, rfl⟩⟩; refine ⟨_, rfl, ?_⟩) | ((with_reducible refine gate_callee (f := 145) rfl ?_); refine goesL_ (some 10) rfl rfl Tryz.func145 (by kernel_rfl) rfl #[.float .f64 a1] rfl sqA ?_; (with_reducible refine (weigh_rank.calls a1 t151 _ A4.out).mono ?_); rintro e w' ⟨rfl, ⟨nd, rfl⟩⟩; refine ⟨_, rfl, ?_⟩))
 go_ret
 exact ⟨sqE, sqW⟩
def table_weighs.f (a0_0 : Int) (a0_1 : Int) (a0_2 : Int) (a0_3 : Int) (l0_4 : List Int) (a0_5 : ByteArray) (a0_6 : ByteArray) (a0_7 : Nat) : Option (Bool) := if (FloatKind.f64.format.order a0_7 a0_7 == some .eq) = true then ((weigh_Order.f a0_7 (0 : Nat)).bind fun t153 => (some (decide (t153 ≥ 0)))) else (some false)
theorem table_weighs.calls (a0_0 : Int) (a0_1 : Int) (a0_2 : Int) (a0_3 : Int) (A0_4 : Option Addr) (c0_4 : Nat) (l0_4 : List Int) (a0_5 : ByteArray) (a0_6 : ByteArray) (a0_7 : Nat) (r : Bool) (w : World) (hr0_4 : Kd.C (Kd.int .i32) w A0_4 l0_4.length l0_4) (hc0_4 : l0_4.length ≤ c0_4) (h : table_weighs.f a0_0 a0_1 a0_2 a0_3 l0_4 a0_5 a0_6 a0_7 = some r) :
  Calls Tryz.prog 78 #[.agg #[.int .i64 a0_0, .int .i64 a0_1, .int .i64 a0_2, .int .i64 a0_3, .slice A0_4 l0_4.length c0_4, .string a0_5, .string a0_6, .float .f64 a0_7]] w fun e w' => e = .returned (.bool r) ∧ Below w.heap.size w w' := by
 have hu25 := Tryz.underlying25
 have HR0_4 := Aside0.mk hr0_4
 have HC0_4 := Aside0.mk hc0_4
 clear hr0_4 hc0_4
 have HB := Aside0.mk (Below.refl w.heap.size w)
 have H : (if (FloatKind.f64.format.order a0_7 a0_7 == some .eq) = true then ((weigh_Order.f a0_7 (0 : Nat)).bind fun t153 => (some (decide (t153 ≥ 0)))) else (some false)) = some r := h
 clear h
 by_cases c2 : (FloatKind.f64.format.order a0_7 a0_7 == some .eq) = true
 ·rw [if_pos c2] at H
  have c2b0 : (FloatKind.f64.format.order a0_7 a0_7 == some .eq) = true := c2
  (try (have c2b1 : decide (FloatKind.f64.format.order a0_7 a0_7 = some .eq) = true := by simpa using c2))
  (try (have c2b2 : (FloatKind.f64.format.order a0_7 a0_7 == some .eq) = true := by simpa using c2))
  clear c2
  obtain ⟨t153, A3, H⟩ := sqO H
  try dsimp only at H
  obtain rfl := Option.some.inj H
  go_enter Tryz.func78, Tryz.ntmps78
  go_wp2_with (first | ((with_reducible refine gate_dst (N := 1) rfl ?_); refine box_event ?hg (N := 1) ?hd (cs := #[.int .i64 a0_0, .int .i64 a0_1, .int .i64 a0_2, .int .i64 a0_3, .slice A0_4 l0_4.length c0_4, .string a0_5, .string a0_6, .float .f64 a0_7]) (t := 25) ?hr ?_; (case hd => rfl); (case hg => rfl); (case hr => first | (go_simp; done) | (go_simp; rfl)); intro gb152 hg w4 hbox hb; have n0_ := Aside0.mk (below_step sqB hb); have n1_ := Aside0.mk (hbox); have n2_ := Aside0.mk ((by rw [hg]; exact (below_size sqB) : w.heap.size ≤ gb152)); have n3_ := Aside0.mk ((by rw [hg]; exact (below_size sqB) : w.heap.size ≤ gb152)); clear HB; have HB := n0_; have BK152 := n1_; have GW152 := n2_; have GE152 := n3_; clear n0_ n1_ n2_ n3_; clear hb hbox hg; obtain ⟨z0, z1, z2, z3, z4, z5, z6, z7, y0, y1, y2, y3, y4, y5, y6, y7⟩ := box8 BK152.out) | (go_at_call 103; (with_reducible refine (weigh_Order.calls a0_7 (0 : Nat) t153 _ A3.out).mono ?_); rintro e w' ⟨rfl, ⟨nd, rfl⟩⟩))
  go_ret
  exact ⟨sqE', sqH⟩
 rw [if_neg c2] at H
 have c2b0 : (FloatKind.f64.format.order a0_7 a0_7 == some .eq) = false := by simpa using c2
 (try (have c2b1 : decide (FloatKind.f64.format.order a0_7 a0_7 = some .eq) = false := by simpa using c2))
 (try (have c2b2 : (FloatKind.f64.format.order a0_7 a0_7 == some .eq) = false := by simpa using c2))
 (try (have c2b3 : ¬ (FloatKind.f64.format.order a0_7 a0_7 = some .eq) := by simpa using c2))
 clear c2
 obtain rfl := Option.some.inj H
 go_enter Tryz.func78, Tryz.ntmps78
 go_wp2_with (first | ((with_reducible refine gate_dst (N := 1) rfl ?_); refine box_event ?hg (N := 1) ?hd (cs := #[.int .i64 a0_0, .int .i64 a0_1, .int .i64 a0_2, .int .i64 a0_3, .slice A0_4 l0_4.length c0_4, .string a0_5, .string a0_6, .float .f64 a0_7]) (t := 25) ?hr ?_; (case hd => rfl); (case hg => rfl); (case hr => first | (go_simp; done) | (go_simp; rfl)); intro gb152 hg w6 hbox hb; have n0_ := Aside0.mk (below_step sqB hb); have n1_ := Aside0.mk (hbox); have n2_ := Aside0.mk ((by rw [hg]; exact (below_size sqB) : w.heap.size ≤ gb152)); have n3_ := Aside0.mk ((by rw [hg]; exact (below_size sqB) : w.heap.size ≤ gb152)); clear HB; have HB := n0_; have BK152 := n1_; have GW152 := n2_; have GE152 := n3_; clear n0_ n1_ n2_ n3_; clear hb hbox hg; obtain ⟨z0, z1, z2, z3, z4, z5, z6, z7, y0, y1, y2, y3, y4, y5, y6, y7⟩ := box8 BK152.out))
 go_ret
 exact ⟨sqE', sqH⟩
end Go.Proofs.YtnoppeocbfapdaaGreatDoor.T
