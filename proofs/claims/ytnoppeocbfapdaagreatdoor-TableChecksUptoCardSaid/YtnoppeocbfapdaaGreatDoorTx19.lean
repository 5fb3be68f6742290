import Derived.Test.YtnoppeocbfapdaaGreatDoorTx0
import Derived.Test.YtnoppeocbfapdaaGreatDoorTx1
namespace Go.Proofs.YtnoppeocbfapdaaGreatDoor.T
open Go.RowKit Go.Proofs.YtnoppeocbfapdaaGreatDoorW.PrintWords Go.Proofs.YtnoppeocbfapdaaGreatDoorW.PrintLast Go.Proofs.YtnoppeocbfapdaaGreatDoorW.PrintMore
set_option maxHeartbeats 8000000
set_option maxRecDepth 100000
attribute [local go_sem] max2_int min2_int max_two min_two max_three min_three max_four min_four
set_option linter.unusedVariables false
set_option linter.unusedSimpArgs false
def endonymref6_bare.f (a0_0 : Int) (a0_1 : Int) (a0_2 : Int) (a0_3 : Int) (l0_4 : List Int) (a0_5 : ByteArray) (a0_6 : ByteArray) (a0_7 : Nat) (a1 : Bool) (a2 : Bool) (a3 : Bool) (a4 : Bool) (a5 : Bool) : Option (Bool) := if a1 = true then (if a2 = true then (if a3 = true then (if a4 = true then (if a5 = true then (some true) else ((api_Bits.f a0_7).bind fun t554 => (some (t554 == 0)))) else (if a0_6.toList = ([] : List UInt8) then (if a5 = true then (some true) else ((api_Bits.f a0_7).bind fun t555 => (some (t555 == 0)))) else (some false))) else (if a0_5.toList = ([] : List UInt8) then (if a4 = true then (if a5 = true then (some true) else ((api_Bits.f a0_7).bind fun t556 => (some (t556 == 0)))) else (if a0_6.toList = ([] : List UInt8) then (if a5 = true then (some true) else ((api_Bits.f a0_7).bind fun t557 => (some (t557 == 0)))) else (some false))) else (some false))) else (if (l0_4.length : Int) = 0 then (if a3 = true then (if a4 = true then (if a5 = true then (some true) else ((api_Bits.f a0_7).bind fun t558 => (some (t558 == 0)))) else (if a0_6.toList = ([] : List UInt8) then (if a5 = true then (some true) else ((api_Bits.f a0_7).bind fun t559 => (some (t559 == 0)))) else (some false))) else (if a0_5.toList = ([] : List UInt8) then (if a4 = true then (if a5 = true then (some true) else ((api_Bits.f a0_7).bind fun t560 => (some (t560 == 0)))) else (if a0_6.toList = ([] : List UInt8) then (if a5 = true then (some true) else ((api_Bits.f a0_7).bind fun t561 => (some (t561 == 0)))) else (some false))) else (some false))) else (some false))) else (if a0_3 = 0 then (if a2 = true then (if a3 = true then (if a4 = true then (if a5 = true then (some true) else ((api_Bits.f a0_7).bind fun t562 => (some (t562 == 0)))) else (if a0_6.toList = ([] : List UInt8) then (if a5 = true then (some true) else ((api_Bits.f a0_7).bind fun t563 => (some (t563 == 0)))) else (some false))) else (if a0_5.toList = ([] : List UInt8) then (if a4 = true then (if a5 = true then (some true) else ((api_Bits.f a0_7).bind fun t564 => (some (t564 == 0)))) else (if a0_6.toList = ([] : List UInt8) then (if a5 = true then (some true) else ((api_Bits.f a0_7).bind fun t565 => (some (t565 == 0)))) else (some false))) else (some false))) else (if (l0_4.length : Int) = 0 then (if a3 = true then (if a4 = true then (if a5 = true then (some true) else ((api_Bits.f a0_7).bind fun t566 => (some (t566 == 0)))) else (if a0_6.toList = ([] : List UInt8) then (if a5 = true then (some true) else ((api_Bits.f a0_7).bind fun t567 => (some (t567 == 0)))) else (some false))) else (if a0_5.toList = ([] : List UInt8) then (if a4 = true then (if a5 = true then (some true) else ((api_Bits.f a0_7).bind fun t568 => (some (t568 == 0)))) else (if a0_6.toList = ([] : List UInt8) then (if a5 = true then (some true) else ((api_Bits.f a0_7).bind fun t569 => (some (t569 == 0)))) else (some false))) else (some false))) else (some false))) else (some false))
theorem endonymref6_bare.calls (a0_0 : Int) (a0_1 : Int) (a0_2 : Int) (a0_3 : Int) (A0_4 : Option Addr) (c0_4 : Nat) (l0_4 : List Int) (a0_5 : ByteArray) (a0_6 : ByteArray) (a0_7 : Nat) (a1 : Bool) (a2 : Bool) (a3 : Bool) (a4 : Bool) (a5 : Bool) (r : Bool) (w : World) (hr0_4 : Kd.C (Kd.int .i32) w A0_4 l0_4.length l0_4) (hc0_4 : l0_4.length ≤ c0_4) (h : endonymref6_bare.f a0_0 a0_1 a0_2 a0_3 l0_4 a0_5 a0_6 a0_7 a1 a2 a3 a4 a5 = some r) :
  Calls Tryz.prog 53 #[.agg #[.int .i64 a0_0, .int .i64 a0_1, .int .i64 a0_2, .int .i64 a0_3, .slice A0_4 l0_4.length c0_4, .string a0_5, .string a0_6, .float .f64 a0_7], .bool a1, .bool a2, .bool a3, .bool a4, .bool a5] w fun e w' => e = .returned (.bool r) ∧ Below w.heap.size w w' := by
 have hu25 := Tryz.underlying25
 have HR0_4 := Aside0.mk hr0_4
 have HC0_4 := Aside0.mk hc0_4
 clear hr0_4 hc0_4
 have HB := Aside0.mk (Below.refl w.heap.size w)
 have H : (if a1 = true then (if a2 = true then (if a3 = true then (if a4 = true then (if a5 = true then (some true) else ((api_Bits.f a0_7).bind fun t554 => (some (t554 == 0)))) else (if a0_6.toList = ([] : List UInt8) then (if a5 = true then (some true) else ((api_Bits.f a0_7).bind fun t555 => (some (t555 == 0)))) else (some false))) else (if a0_5.toList = ([] : List UInt8) then (if a4 = true then (if a5 = true then (some true) else ((api_Bits.f a0_7).bind fun t556 => (some (t556 == 0)))) else (if a0_6.toList = ([] : List UInt8) then (if a5 = true then (some true) else ((api_Bits.f a0_7).bind fun t557 => (some (t557 == 0)))) else (some false))) else (some false))) else (if (l0_4.length : Int) = 0 then (if a3 = true then (if a4 = true then (if a5 = true then (some true) else ((api_Bits.f a0_7).bind fun t558 => (some (t558 == 0)))) else (if a0_6.toList = ([] : List UInt8) then (if a5 = true then (some true) else ((api_Bits.f a0_7).bind fun t559 => (some (t559 == 0)))) else (some false))) else (if a0_5.toList = ([] : List UInt8) then (if a4 = true then (if a5 = true then (some true) else ((api_Bits.f a0_7).bind fun t560 => (some (t560 == 0)))) else (if a0_6.toList = ([] : List UInt8) then (if a5 = true then (some true) else ((api_Bits.f a0_7).bind fun t561 => (some (t561 == 0)))) else (some false))) else (some false))) else (some false))) else (if a0_3 = 0 then (if a2 = true then (if a3 = true then (if a4 = true then (if a5 = true then (some true) else ((api_Bits.f a0_7).bind fun t562 => (some (t562 == 0)))) else (if a0_6.toList = ([] : List UInt8) then (if a5 = true then (some true) else ((api_Bits.f a0_7).bind fun t563 => (some (t563 == 0)))) else (some false))) else (if a0_5.toList = ([] : List UInt8) then (if a4 = true then (if a5 = true then (some true) else ((api_Bits.f a0_7).bind fun t564 => (some (t564 == 0)))) else (if a0_6.toList = ([] : List UInt8) then (if a5 = true then (some true) else ((api_Bits.f a0_7).bind fun t565 => (some (t565 == 0)))) else (some false))) else (some false))) else (if (l0_4.length : Int) = 0 then (if a3 = true then (if a4 = true then (if a5 = true then (some true) else ((api_Bits.f a0_7).bind fun t566 => (some (t566 == 0)))) else (if a0_6.toList = ([] : List UInt8) then (if a5 = true then (some true) else ((api_Bits.f a0_7).bind fun t567 => (some (t567 == 0)))) else (some false))) else (if a0_5.toList = ([] : List UInt8) then (if a4 = true then (if a5 = true then (some true) else ((api_Bits.f a0_7).bind fun t568 => (some (t568 == 0)))) else (if a0_6.toList = ([] : List UInt8) then (if a5 = true then (some true) else ((api_Bits.f a0_7).bind fun t569 => (some (t569 == 0)))) else (some false))) else (some false))) else (some false))) else (some false))) = some r := h
 clear h
 go_enter Tryz.func53, Tryz.ntmps53
 go_upto_region 1 with (first | ((with_reducible refine gate_dst (N := 6) rfl ?_); (try (refine gate_guard (by rfl) ?_; dsimp only)); refine box_event ?hg (N := 6) ?hd (cs := #[.int .i64 a0_0, .int .i64 a0_1, .int .i64 a0_2, .int .i64 a0_3, .slice A0_4 l0_4.length c0_4, .string a0_5, .string a0_6, .float .f64 a0_7]) (t := 25) ?hr ?_; (case hd => rfl); (case hg => rfl); (case hr => first | (go_simp; done) | (go_simp; rfl)); intro gb553 hg w160 hbox hb; have n0_ := Aside0.mk (below_step sqB hb); have n1_ := Aside0.mk (hbox); have n2_ := Aside0.mk ((by rw [hg]; exact (below_size sqB) : w.heap.size ≤ gb553)); have n3_ := Aside0.mk ((by rw [hg]; exact (below_size sqB) : w.heap.size ≤ gb553)); clear HB; have HB := n0_; have BK553 := n1_; have GW553 := n2_; have GE553 := n3_; clear n0_ n1_ n2_ n3_; clear hb hbox hg; obtain ⟨z0, z1, z2, z3, z4, z5, z6, z7, y0, y1, y2, y3, y4, y5, y6, y7⟩ := box8 BK553.out))
 by_cases c7 : a1 = true
 ·subst c7
  simp only [↓reduceIte, Bool.false_eq_true] at H
  by_cases c8 : a2 = true
  ·subst c8
   simp only [↓reduceIte, Bool.false_eq_true] at H
   by_cases c9 : a3 = true
   ·subst c9
    simp only [↓reduceIte, Bool.false_eq_true] at H
    by_cases c10 : a4 = true
    ·subst c10
     simp only [↓reduceIte, Bool.false_eq_true] at H
     by_cases c11 : a5 = true
     ·subst c11
      simp only [↓reduceIte, Bool.false_eq_true] at H
      obtain rfl := Option.some.inj H
      go_wp2
      go_ret
      exact ⟨sqE', sqH⟩
     replace c11 := Bool.eq_false_iff.mpr c11
     subst c11
     simp only [↓reduceIte, Bool.false_eq_true] at H
     obtain ⟨t554, A13, H⟩ := sqO H
     try dsimp only at H
     obtain rfl := Option.some.inj H
     go_wp2_with (first | (go_at_call 52; (with_reducible refine (api_Bits.calls a0_7 t554 _ A13.out).mono ?_); rintro e w' ⟨rfl, ⟨nd, rfl⟩⟩))
     go_ret
     exact ⟨sqE', sqH⟩
    replace c10 := Bool.eq_false_iff.mpr c10
    subst c10
    simp only [↓reduceIte, Bool.false_eq_true] at H
    by_cases c16 : a0_6.toList = ([] : List UInt8)
    case neg =>
     rw [if_neg c16] at H
     have c16b0 := beq_eq_false_iff_ne.mpr c16
     have c16b1 := bne_iff_ne.mpr c16
     obtain rfl := Option.some.inj H
     go_wp2
     go_ret
     exact ⟨sqE', sqH⟩
    rw [if_pos c16] at H
    have c16b0 := beq_iff_eq.mpr c16
    have c16b1 := bne_eq_false_iff_eq.mpr c16
    clear c16
    by_cases c17 : a5 = true
    ·subst c17
     simp only [↓reduceIte, Bool.false_eq_true] at H
     obtain rfl := Option.some.inj H
     go_wp2
     go_ret
     exact ⟨sqE', sqH⟩
    replace c17 := Bool.eq_false_iff.mpr c17
    subst c17
    simp only [↓reduceIte, Bool.false_eq_true] at H
    obtain ⟨t555, A20, H⟩ := sqO H
    try dsimp only at H
    obtain rfl := Option.some.inj H
    go_wp2_with (first | (go_at_call 52; (with_reducible refine (api_Bits.calls a0_7 t555 _ A20.out).mono ?_); rintro e w' ⟨rfl, ⟨nd, rfl⟩⟩))
    go_ret
    exact ⟨sqE', sqH⟩
   replace c9 := Bool.eq_false_iff.mpr c9
   subst c9
   simp only [↓reduceIte, Bool.false_eq_true] at H
   by_cases c25 : a0_5.toList = ([] : List UInt8)
   case neg =>
    rw [if_neg c25] at H
    have c25b0 := beq_eq_false_iff_ne.mpr c25
    have c25b1 := bne_iff_ne.mpr c25
    obtain rfl := Option.some.inj H
    go_wp2
    go_ret
    exact ⟨sqE', sqH⟩
   rw [if_pos c25] at H
   have c25b0 := beq_iff_eq.mpr c25
   have c25b1 := bne_eq_false_iff_eq.mpr c25
   clear c25
   by_cases c26 : a4 = true
   ·subst c26
    simp only [↓reduceIte, Bool.false_eq_true] at H
    by_cases c27 : a5 = true
    ·subst c27
     simp only [↓reduceIte, Bool.false_eq_true] at H
     obtain rfl := Option.some.inj H
     go_wp2
     go_ret
     exact ⟨sqE', sqH⟩
    replace c27 := Bool.eq_false_iff.mpr c27
    subst c27
    simp only [↓reduceIte, Bool.false_eq_true] at H
    obtain ⟨t556, A30, H⟩ := sqO H
    try dsimp only at H
    obtain rfl := Option.some.inj H
    go_wp2_with (first | (go_at_call 52; (with_reducible refine (api_Bits.calls a0_7 t556 _ A30.out).mono ?_); rintro e w' ⟨rfl, ⟨nd, rfl⟩⟩))
    go_ret
    exact ⟨sqE', sqH⟩
   replace c26 := Bool.eq_false_iff.mpr c26
   subst c26
   simp only [↓reduceIte, Bool.false_eq_true] at H
   by_cases c33 : a0_6.toList = ([] : List UInt8)
   case neg =>
    rw [if_neg c33] at H
    have c33b0 := beq_eq_false_iff_ne.mpr c33
    have c33b1 := bne_iff_ne.mpr c33
    obtain rfl := Option.some.inj H
    go_wp2
    go_ret
    exact ⟨sqE', sqH⟩
   rw [if_pos c33] at H
   have c33b0 := beq_iff_eq.mpr c33
   have c33b1 := bne_eq_false_iff_eq.mpr c33
   clear c33
   by_cases c34 : a5 = true
   ·subst c34
    simp only [↓reduceIte, Bool.false_eq_true] at H
    obtain rfl := Option.some.inj H
    go_wp2
    go_ret
    exact ⟨sqE', sqH⟩
   replace c34 := Bool.eq_false_iff.mpr c34
   subst c34
   simp only [↓reduceIte, Bool.false_eq_true] at H
   obtain ⟨t557, A37, H⟩ := sqO H
   try dsimp only at H
   obtain rfl := Option.some.inj H
   go_wp2_with (first | (go_at_call 52; (with_reducible refine (api_Bits.calls a0_7 t557 _ A37.out).mono ?_); rintro e w' ⟨rfl, ⟨nd, rfl⟩⟩))
   go_ret
   exact ⟨sqE', sqH⟩
  replace c8 := Bool.eq_false_iff.mpr c8
  subst c8
  simp only [↓reduceIte, Bool.false_eq_true] at H
  by_cases c44 : (l0_4.length : Int) = 0
  case neg =>
   rw [if_neg c44] at H
   have c44b0 := beq_eq_false_iff_ne.mpr c44
   have c44b1 := bne_iff_ne.mpr c44
   have c44b2 : ¬ (l0_4 = []) := fun h_ => c44 (by rw [h_]; rfl)
   obtain rfl := Option.some.inj H
   go_wp2
   go_ret
   exact ⟨sqE', sqH⟩
  rw [if_pos c44] at H
  have c44b0 := beq_iff_eq.mpr c44
  have c44b1 := bne_eq_false_iff_eq.mpr c44
  clear c44
  by_cases c45 : a3 = true
  ·subst c45
   simp only [↓reduceIte, Bool.false_eq_true] at H
   by_cases c46 : a4 = true
   ·subst c46
    simp only [↓reduceIte, Bool.false_eq_true] at H
    by_cases c47 : a5 = true
    ·subst c47
     simp only [↓reduceIte, Bool.false_eq_true] at H
     obtain rfl := Option.some.inj H
     go_wp2
     go_ret
     exact ⟨sqE', sqH⟩
    replace c47 := Bool.eq_false_iff.mpr c47
    subst c47
    simp only [↓reduceIte, Bool.false_eq_true] at H
    obtain ⟨t558, A50, H⟩ := sqO H
    try dsimp only at H
    obtain rfl := Option.some.inj H
    go_wp2_with (first | (go_at_call 52; (with_reducible refine (api_Bits.calls a0_7 t558 _ A50.out).mono ?_); rintro e w' ⟨rfl, ⟨nd, rfl⟩⟩))
    go_ret
    exact ⟨sqE', sqH⟩
   replace c46 := Bool.eq_false_iff.mpr c46
   subst c46
   simp only [↓reduceIte, Bool.false_eq_true] at H
   by_cases c53 : a0_6.toList = ([] : List UInt8)
   case neg =>
    rw [if_neg c53] at H
    have c53b0 := beq_eq_false_iff_ne.mpr c53
    have c53b1 := bne_iff_ne.mpr c53
    obtain rfl := Option.some.inj H
    go_wp2
    go_ret
    exact ⟨sqE', sqH⟩
   rw [if_pos c53] at H
   have c53b0 := beq_iff_eq.mpr c53
   have c53b1 := bne_eq_false_iff_eq.mpr c53
   clear c53
   by_cases c54 : a5 = true
   ·subst c54
    simp only [↓reduceIte, Bool.false_eq_true] at H
    obtain rfl := Option.some.inj H
    go_wp2
    go_ret
    exact ⟨sqE', sqH⟩
   replace c54 := Bool.eq_false_iff.mpr c54
   subst c54
   simp only [↓reduceIte, Bool.false_eq_true] at H
   obtain ⟨t559, A57, H⟩ := sqO H
   try dsimp only at H
   obtain rfl := Option.some.inj H
   go_wp2_with (first | (go_at_call 52; (with_reducible refine (api_Bits.calls a0_7 t559 _ A57.out).mono ?_); rintro e w' ⟨rfl, ⟨nd, rfl⟩⟩))
   go_ret
   exact ⟨sqE', sqH⟩
  replace c45 := Bool.eq_false_iff.mpr c45
  subst c45
  simp only [↓reduceIte, Bool.false_eq_true] at H
  by_cases c62 : a0_5.toList = ([] : List UInt8)
  case neg =>
   rw [if_neg c62] at H
   have c62b0 := beq_eq_false_iff_ne.mpr c62
   have c62b1 := bne_iff_ne.mpr c62
   obtain rfl := Option.some.inj H
   go_wp2
   go_ret
   exact ⟨sqE', sqH⟩
  rw [if_pos c62] at H
  have c62b0 := beq_iff_eq.mpr c62
  have c62b1 := bne_eq_false_iff_eq.mpr c62
  clear c62
  by_cases c63 : a4 = true
  ·subst c63
   simp only [↓reduceIte, Bool.false_eq_true] at H
   by_cases c64 : a5 = true
   ·subst c64
    simp only [↓reduceIte, Bool.false_eq_true] at H
    obtain rfl := Option.some.inj H
    go_wp2
    go_ret
    exact ⟨sqE', sqH⟩
   replace c64 := Bool.eq_false_iff.mpr c64
   subst c64
   simp only [↓reduceIte, Bool.false_eq_true] at H
   obtain ⟨t560, A67, H⟩ := sqO H
   try dsimp only at H
   obtain rfl := Option.some.inj H
   go_wp2_with (first | (go_at_call 52; (with_reducible refine (api_Bits.calls a0_7 t560 _ A67.out).mono ?_); rintro e w' ⟨rfl, ⟨nd, rfl⟩⟩))
   go_ret
   exact ⟨sqE', sqH⟩
  replace c63 := Bool.eq_false_iff.mpr c63
  subst c63
  simp only [↓reduceIte, Bool.false_eq_true] at H
  by_cases c70 : a0_6.toList = ([] : List UInt8)
  case neg =>
   rw [if_neg c70] at H
   have c70b0 := beq_eq_false_iff_ne.mpr c70
   have c70b1 := bne_iff_ne.mpr c70
   obtain rfl := Option.some.inj H
   go_wp2
   go_ret
   exact ⟨sqE', sqH⟩
  rw [if_pos c70] at H
  have c70b0 := beq_iff_eq.mpr c70
  have c70b1 := bne_eq_false_iff_eq.mpr c70
  clear c70
  by_cases c71 : a5 = true
  ·subst c71
   simp only [↓reduceIte, Bool.false_eq_true] at H
   obtain rfl := Option.some.inj H
   go_wp2
   go_ret
   exact ⟨sqE', sqH⟩
  replace c71 := Bool.eq_false_iff.mpr c71
  subst c71
  simp only [↓reduceIte, Bool.false_eq_true] at H
  obtain ⟨t561, A74, H⟩ := sqO H
  try dsimp only at H
  obtain rfl := Option.some.inj H
  go_wp2_with (first | (go_at_call 52; (with_reducible refine (api_Bits.calls a0_7 t561 _ A74.out).mono ?_); rintro e w' ⟨rfl, ⟨nd, rfl⟩⟩))
  go_ret
  exact ⟨sqE', sqH⟩
 replace c7 := Bool.eq_false_iff.mpr c7
 subst c7
 simp only [↓reduceIte, Bool.false_eq_true] at H
 by_cases c83 : a0_3 = 0
 case neg =>
  rw [if_neg c83] at H
  have c83b0 := beq_eq_false_iff_ne.mpr c83
  have c83b1 := bne_iff_ne.mpr c83
  obtain rfl := Option.some.inj H
  go_wp2
  go_ret
  exact ⟨sqE', sqH⟩
 rw [if_pos c83] at H
 have c83b0 := beq_iff_eq.mpr c83
 have c83b1 := bne_eq_false_iff_eq.mpr c83
 clear c83
 by_cases c84 : a2 = true
 ·subst c84
  simp only [↓reduceIte, Bool.false_eq_true] at H
  by_cases c85 : a3 = true
  ·subst c85
   simp only [↓reduceIte, Bool.false_eq_true] at H
   by_cases c86 : a4 = true
   ·subst c86
    simp only [↓reduceIte, Bool.false_eq_true] at H
    by_cases c87 : a5 = true
    ·subst c87
     simp only [↓reduceIte, Bool.false_eq_true] at H
     obtain rfl := Option.some.inj H
     go_wp2
     go_ret
     exact ⟨sqE', sqH⟩
    replace c87 := Bool.eq_false_iff.mpr c87
    subst c87
    simp only [↓reduceIte, Bool.false_eq_true] at H
    obtain ⟨t562, A90, H⟩ := sqO H
    try dsimp only at H
    obtain rfl := Option.some.inj H
    go_wp2_with (first | (go_at_call 52; (with_reducible refine (api_Bits.calls a0_7 t562 _ A90.out).mono ?_); rintro e w' ⟨rfl, ⟨nd, rfl⟩⟩))
    go_ret
    exact ⟨sqE', sqH⟩
   replace c86 := Bool.eq_false_iff.mpr c86
   subst c86
   simp only [↓reduceIte, Bool.false_eq_true] at H
   by_cases c93 : a0_6.toList = ([] : List UInt8)
   case neg =>
    rw [if_neg c93] at H
    have c93b0 := beq_eq_false_iff_ne.mpr c93
    have c93b1 := bne_iff_ne.mpr c93
    obtain rfl := Option.some.inj H
    go_wp2
    go_ret
    exact ⟨sqE', sqH⟩
   rw [if_pos c93] at H
   have c93b0 := beq_iff_eq.mpr c93
   have c93b1 := bne_eq_false_iff_eq.mpr c93
   clear c93
   by_cases c94 : a5 = true
   ·subst c94
    simp only [↓reduceIte, Bool.false_eq_true] at H
    obtain rfl := Option.some.inj H
    go_wp2
    go_ret
    exact ⟨sqE', sqH⟩
   replace c94 := Bool.eq_false_iff.mpr c94
   subst c94
   simp only [↓reduceIte, Bool.false_eq_true] at H
   obtain ⟨t563, A97, H⟩ := sqO H
   try dsimp only at H
   obtain rfl := Option.some.inj H
   go_wp2_with (first | (go_at_call 52; (with_reducible refine (api_Bits.calls a0_7 t563 _ A97.out).mono ?_); rintro e w' ⟨rfl, ⟨nd, rfl⟩⟩))
   go_ret
   exact ⟨sqE', sqH⟩
  replace c85 := Bool.eq_false_iff.mpr c85
  subst c85
  simp only [↓reduceIte, Bool.false_eq_true] at H
  by_cases c102 : a0_5.toList = ([] : List UInt8)
  case neg =>
   rw [if_neg c102] at H
   have c102b0 := beq_eq_false_iff_ne.mpr c102
   have c102b1 := bne_iff_ne.mpr c102
   obtain rfl := Option.some.inj H
   go_wp2
   go_ret
   exact ⟨sqE', sqH⟩
  rw [if_pos c102] at H
  have c102b0 := beq_iff_eq.mpr c102
  have c102b1 := bne_eq_false_iff_eq.mpr c102
  clear c102
  by_cases c103 : a4 = true
  ·subst c103
   simp only [↓reduceIte, Bool.false_eq_true] at H
   by_cases c104 : a5 = true
   ·subst c104
    simp only [↓reduceIte, Bool.false_eq_true] at H
    obtain rfl := Option.some.inj H
    go_wp2
    go_ret
    exact ⟨sqE', sqH⟩
   replace c104 := Bool.eq_false_iff.mpr c104
   subst c104
   simp only [↓reduceIte, Bool.false_eq_true] at H
   obtain ⟨t564, A107, H⟩ := sqO H
   try dsimp only at H
   obtain rfl := Option.some.inj H
   go_wp2_with (first | (go_at_call 52; (with_reducible refine (api_Bits.calls a0_7 t564 _ A107.out).mono ?_); rintro e w' ⟨rfl, ⟨nd, rfl⟩⟩))
   go_ret
   exact ⟨sqE', sqH⟩
  replace c103 := Bool.eq_false_iff.mpr c103
  subst c103
  simp only [↓reduceIte, Bool.false_eq_true] at H
  by_cases c110 : a0_6.toList = ([] : List UInt8)
  case neg =>
   rw [if_neg c110] at H
   have c110b0 := beq_eq_false_iff_ne.mpr c110
   have c110b1 := bne_iff_ne.mpr c110
   obtain rfl := Option.some.inj H
   go_wp2
   go_ret
   exact ⟨sqE', sqH⟩
  rw [if_pos c110] at H
  have c110b0 := beq_iff_eq.mpr c110
  have c110b1 := bne_eq_false_iff_eq.mpr c110
  clear c110
  by_cases c111 : a5 = true
  ·subst c111
   simp only [↓reduceIte, Bool.false_eq_true] at H
   obtain rfl := Option.some.inj H
   go_wp2
   go_ret
   exact ⟨sqE', sqH⟩
  replace c111 := Bool.eq_false_iff.mpr c111
  subst c111
  simp only [↓reduceIte, Bool.false_eq_true] at H
  obtain ⟨t565, A114, H⟩ := sqO H
  try dsimp only at H
  obtain rfl := Option.some.inj H
  go_wp2_with (first | (go_at_call 52; (with_reducible refine (api_Bits.calls a0_7 t565 _ A114.out).mono ?_); rintro e w' ⟨rfl, ⟨nd, rfl⟩⟩))
  go_ret
  exact ⟨sqE', sqH⟩
 replace c84 := Bool.eq_false_iff.mpr c84
 subst c84
 simp only [↓reduceIte, Bool.false_eq_true] at H
 by_cases c121 : (l0_4.length : Int) = 0
 case neg =>
  rw [if_neg c121] at H
  have c121b0 := beq_eq_false_iff_ne.mpr c121
  have c121b1 := bne_iff_ne.mpr c121
  have c121b2 : ¬ (l0_4 = []) := fun h_ => c121 (by rw [h_]; rfl)
  obtain rfl := Option.some.inj H
  go_wp2
  go_ret
  exact ⟨sqE', sqH⟩
 rw [if_pos c121] at H
 have c121b0 := beq_iff_eq.mpr c121
 have c121b1 := bne_eq_false_iff_eq.mpr c121
 clear c121
 by_cases c122 : a3 = true
 ·subst c122
  simp only [↓reduceIte, Bool.false_eq_true] at H
  by_cases c123 : a4 = true
  ·subst c123
   simp only [↓reduceIte, Bool.false_eq_true] at H
   by_cases c124 : a5 = true
   ·subst c124
    simp only [↓reduceIte, Bool.false_eq_true] at H
    obtain rfl := Option.some.inj H
    go_wp2
    go_ret
    exact ⟨sqE', sqH⟩
   replace c124 := Bool.eq_false_iff.mpr c124
   subst c124
   simp only [↓reduceIte, Bool.false_eq_true] at H
   obtain ⟨t566, A127, H⟩ := sqO H
   try dsimp only at H
   obtain rfl := Option.some.inj H
   go_wp2_with (first | (go_at_call 52; (with_reducible refine (api_Bits.calls a0_7 t566 _ A127.out).mono ?_); rintro e w' ⟨rfl, ⟨nd, rfl⟩⟩))
   go_ret
   exact ⟨sqE', sqH⟩
  replace c123 := Bool.eq_false_iff.mpr c123
  subst c123
  simp only [↓reduceIte, Bool.false_eq_true] at H
  by_cases c130 : a0_6.toList = ([] : List UInt8)
  case neg =>
   rw [if_neg c130] at H
   have c130b0 := beq_eq_false_iff_ne.mpr c130
   have c130b1 := bne_iff_ne.mpr c130
   obtain rfl := Option.some.inj H
   go_wp2
   go_ret
   exact ⟨sqE', sqH⟩
  rw [if_pos c130] at H
  have c130b0 := beq_iff_eq.mpr c130
  have c130b1 := bne_eq_false_iff_eq.mpr c130
  clear c130
  by_cases c131 : a5 = true
  ·subst c131
   simp only [↓reduceIte, Bool.false_eq_true] at H
   obtain rfl := Option.some.inj H
   go_wp2
   go_ret
   exact ⟨sqE', sqH⟩
  replace c131 := Bool.eq_false_iff.mpr c131
  subst c131
  simp only [↓reduceIte, Bool.false_eq_true] at H
  obtain ⟨t567, A134, H⟩ := sqO H
  try dsimp only at H
  obtain rfl := Option.some.inj H
  go_wp2_with (first | (go_at_call 52; (with_reducible refine (api_Bits.calls a0_7 t567 _ A134.out).mono ?_); rintro e w' ⟨rfl, ⟨nd, rfl⟩⟩))
  go_ret
  exact ⟨sqE', sqH⟩
 replace c122 := Bool.eq_false_iff.mpr c122
 subst c122
 simp only [↓reduceIte, Bool.false_eq_true] at H
 by_cases c139 : a0_5.toList = ([] : List UInt8)
 case neg =>
  rw [if_neg c139] at H
  have c139b0 := beq_eq_false_iff_ne.mpr c139
  have c139b1 := bne_iff_ne.mpr c139
  obtain rfl := Option.some.inj H
  go_wp2
  go_ret
  exact ⟨sqE', sqH⟩
 rw [if_pos c139] at H
 have c139b0 := beq_iff_eq.mpr c139
 have c139b1 := bne_eq_false_iff_eq.mpr c139
 clear c139
 by_cases c140 : a4 = true
 ·subst c140
  simp only [↓reduceIte, Bool.false_eq_true] at H
  by_cases c141 : a5 = true
  ·subst c141
   simp only [↓reduceIte, Bool.false_eq_true] at H
   obtain rfl := Option.some.inj H
   go_wp2
   go_ret
   exact ⟨sqE', sqH⟩
  replace c141 := Bool.eq_false_iff.mpr c141
  subst c141
  simp only [↓reduceIte, Bool.false_eq_true] at H
  obtain ⟨t568, A144, H⟩ := sqO H
  try dsimp only at H
  obtain rfl := Option.some.inj H
  go_wp2_with (first | (go_at_call 52; (with_reducible refine (api_Bits.calls a0_7 t568 _ A144.out).mono ?_); rintro e w' ⟨rfl, ⟨nd, rfl⟩⟩))
  go_ret
  exact ⟨sqE', sqH⟩
 replace c140 := Bool.eq_false_iff.mpr c140
 subst c140
 simp only [↓reduceIte, Bool.false_eq_true] at H
 by_cases c147 : a0_6.toList = ([] : List UInt8)
 case neg =>
  rw [if_neg c147] at H
  have c147b0 := beq_eq_false_iff_ne.mpr c147
  have c147b1 := bne_iff_ne.mpr c147
  obtain rfl := Option.some.inj H
  go_wp2
  go_ret
  exact ⟨sqE', sqH⟩
 rw [if_pos c147] at H
 have c147b0 := beq_iff_eq.mpr c147
 have c147b1 := bne_eq_false_iff_eq.mpr c147
 clear c147
 by_cases c148 : a5 = true
 ·subst c148
  simp only [↓reduceIte, Bool.false_eq_true] at H
  obtain rfl := Option.some.inj H
  go_wp2
  go_ret
  exact ⟨sqE', sqH⟩
 replace c148 := Bool.eq_false_iff.mpr c148
 subst c148
 simp only [↓reduceIte, Bool.false_eq_true] at H
 obtain ⟨t569, A151, H⟩ := sqO H
 try dsimp only at H
 obtain rfl := Option.some.inj H
 go_wp2_with (first | (go_at_call 52; (with_reducible refine (api_Bits.calls a0_7 t569 _ A151.out).mono ?_); rintro e w' ⟨rfl, ⟨nd, rfl⟩⟩))
 go_ret
 exact ⟨sqE', sqH⟩
end Go.Proofs.YtnoppeocbfapdaaGreatDoor.T
