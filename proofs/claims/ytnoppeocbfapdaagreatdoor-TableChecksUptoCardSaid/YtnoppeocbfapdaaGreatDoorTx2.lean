import Derived.Test.YtnoppeocbfapdaaGreatDoorTx0
import Derived.Test.YtnoppeocbfapdaaGreatDoorTx1
namespace Go.Proofs.YtnoppeocbfapdaaGreatDoor.T
open Go.RowKit Go.Proofs.YtnoppeocbfapdaaGreatDoorW.PrintWords Go.Proofs.YtnoppeocbfapdaaGreatDoorW.PrintLast Go.Proofs.YtnoppeocbfapdaaGreatDoorW.PrintMore
set_option maxHeartbeats 8000000
set_option maxRecDepth 100000
attribute [local go_sem] max2_int min2_int max_two min_two max_three min_three max_four min_four
set_option linter.unusedVariables false
set_option linter.unusedSimpArgs false
def table_spare_nothing.f (a0_0 : Bool) (a0_1 : Bool) (a0_2 : Bool) (a0_3 : Bool) (a1_0 : Int) (a1_1 : Int) (a1_2 : Int) (a1_3 : Int) (l1_4 : List Int) (a1_5 : ByteArray) (a1_6 : ByteArray) (a1_7 : Nat) : Option (Bool) := if a0_0 = true then (if a1_3 = 0 then (if a0_1 = true then (if (l1_4.length : Int) > 0 then (some false) else (if a0_2 = true then (if a1_5.toList = ([] : List UInt8) then (if a1_6.toList = ([] : List UInt8) then (if a0_3 = true then ((api_Bits.f a1_7).bind fun t119 => (some (!(t119 != 0)))) else (some (!false))) else (if a1_0 = 15 then (if a0_3 = true then ((api_Bits.f a1_7).bind fun t120 => (some (!(t120 != 0)))) else (some (!false))) else (some (!true)))) else (some (!true))) else (if a1_6.toList = ([] : List UInt8) then (if a0_3 = true then ((api_Bits.f a1_7).bind fun t121 => (some (!(t121 != 0)))) else (some (!false))) else (if a1_0 = 15 then (if a0_3 = true then ((api_Bits.f a1_7).bind fun t122 => (some (!(t122 != 0)))) else (some (!false))) else (some (!true)))))) else (if a0_2 = true then (if a1_5.toList = ([] : List UInt8) then (if a1_6.toList = ([] : List UInt8) then (if a0_3 = true then ((api_Bits.f a1_7).bind fun t123 => (some (!(t123 != 0)))) else (some (!false))) else (if a1_0 = 15 then (if a0_3 = true then ((api_Bits.f a1_7).bind fun t124 => (some (!(t124 != 0)))) else (some (!false))) else (some (!true)))) else (some (!true))) else (if a1_6.toList = ([] : List UInt8) then (if a0_3 = true then ((api_Bits.f a1_7).bind fun t125 => (some (!(t125 != 0)))) else (some (!false))) else (if a1_0 = 15 then (if a0_3 = true then ((api_Bits.f a1_7).bind fun t126 => (some (!(t126 != 0)))) else (some (!false))) else (some (!true)))))) else (some false)) else (if a0_1 = true then (if (l1_4.length : Int) > 0 then (some false) else (if a0_2 = true then (if a1_5.toList = ([] : List UInt8) then (if a1_6.toList = ([] : List UInt8) then (if a0_3 = true then ((api_Bits.f a1_7).bind fun t127 => (some (!(t127 != 0)))) else (some (!false))) else (if a1_0 = 15 then (if a0_3 = true then ((api_Bits.f a1_7).bind fun t128 => (some (!(t128 != 0)))) else (some (!false))) else (some (!true)))) else (some (!true))) else (if a1_6.toList = ([] : List UInt8) then (if a0_3 = true then ((api_Bits.f a1_7).bind fun t129 => (some (!(t129 != 0)))) else (some (!false))) else (if a1_0 = 15 then (if a0_3 = true then ((api_Bits.f a1_7).bind fun t130 => (some (!(t130 != 0)))) else (some (!false))) else (some (!true)))))) else (if a0_2 = true then (if a1_5.toList = ([] : List UInt8) then (if a1_6.toList = ([] : List UInt8) then (if a0_3 = true then ((api_Bits.f a1_7).bind fun t131 => (some (!(t131 != 0)))) else (some (!false))) else (if a1_0 = 15 then (if a0_3 = true then ((api_Bits.f a1_7).bind fun t132 => (some (!(t132 != 0)))) else (some (!false))) else (some (!true)))) else (some (!true))) else (if a1_6.toList = ([] : List UInt8) then (if a0_3 = true then ((api_Bits.f a1_7).bind fun t133 => (some (!(t133 != 0)))) else (some (!false))) else (if a1_0 = 15 then (if a0_3 = true then ((api_Bits.f a1_7).bind fun t134 => (some (!(t134 != 0)))) else (some (!false))) else (some (!true))))))
theorem table_spare_nothing.calls (a0_0 : Bool) (a0_1 : Bool) (a0_2 : Bool) (a0_3 : Bool) (a1_0 : Int) (a1_1 : Int) (a1_2 : Int) (a1_3 : Int) (A1_4 : Option Addr) (c1_4 : Nat) (l1_4 : List Int) (a1_5 : ByteArray) (a1_6 : ByteArray) (a1_7 : Nat) (r : Bool) (w : World) (hr1_4 : Kd.C (Kd.int .i32) w A1_4 l1_4.length l1_4) (hc1_4 : l1_4.length ≤ c1_4) (h : table_spare_nothing.f a0_0 a0_1 a0_2 a0_3 a1_0 a1_1 a1_2 a1_3 l1_4 a1_5 a1_6 a1_7 = some r) :
  Calls Tryz.prog 72 #[.agg #[.bool a0_0, .bool a0_1, .bool a0_2, .bool a0_3], .agg #[.int .i64 a1_0, .int .i64 a1_1, .int .i64 a1_2, .int .i64 a1_3, .slice A1_4 l1_4.length c1_4, .string a1_5, .string a1_6, .float .f64 a1_7]] w fun e w' => e = .returned (.bool r) ∧ Below w.heap.size w w' := by
 have hu110 := Tryz.underlying110
 have hu25 := Tryz.underlying25
 have HR1_4 := Aside0.mk hr1_4
 have HC1_4 := Aside0.mk hc1_4
 clear hr1_4 hc1_4
 have HB := Aside0.mk (Below.refl w.heap.size w)
 have H : (if a0_0 = true then (if a1_3 = 0 then (if a0_1 = true then (if (l1_4.length : Int) > 0 then (some false) else (if a0_2 = true then (if a1_5.toList = ([] : List UInt8) then (if a1_6.toList = ([] : List UInt8) then (if a0_3 = true then ((api_Bits.f a1_7).bind fun t119 => (some (!(t119 != 0)))) else (some (!false))) else (if a1_0 = 15 then (if a0_3 = true then ((api_Bits.f a1_7).bind fun t120 => (some (!(t120 != 0)))) else (some (!false))) else (some (!true)))) else (some (!true))) else (if a1_6.toList = ([] : List UInt8) then (if a0_3 = true then ((api_Bits.f a1_7).bind fun t121 => (some (!(t121 != 0)))) else (some (!false))) else (if a1_0 = 15 then (if a0_3 = true then ((api_Bits.f a1_7).bind fun t122 => (some (!(t122 != 0)))) else (some (!false))) else (some (!true)))))) else (if a0_2 = true then (if a1_5.toList = ([] : List UInt8) then (if a1_6.toList = ([] : List UInt8) then (if a0_3 = true then ((api_Bits.f a1_7).bind fun t123 => (some (!(t123 != 0)))) else (some (!false))) else (if a1_0 = 15 then (if a0_3 = true then ((api_Bits.f a1_7).bind fun t124 => (some (!(t124 != 0)))) else (some (!false))) else (some (!true)))) else (some (!true))) else (if a1_6.toList = ([] : List UInt8) then (if a0_3 = true then ((api_Bits.f a1_7).bind fun t125 => (some (!(t125 != 0)))) else (some (!false))) else (if a1_0 = 15 then (if a0_3 = true then ((api_Bits.f a1_7).bind fun t126 => (some (!(t126 != 0)))) else (some (!false))) else (some (!true)))))) else (some false)) else (if a0_1 = true then (if (l1_4.length : Int) > 0 then (some false) else (if a0_2 = true then (if a1_5.toList = ([] : List UInt8) then (if a1_6.toList = ([] : List UInt8) then (if a0_3 = true then ((api_Bits.f a1_7).bind fun t127 => (some (!(t127 != 0)))) else (some (!false))) else (if a1_0 = 15 then (if a0_3 = true then ((api_Bits.f a1_7).bind fun t128 => (some (!(t128 != 0)))) else (some (!false))) else (some (!true)))) else (some (!true))) else (if a1_6.toList = ([] : List UInt8) then (if a0_3 = true then ((api_Bits.f a1_7).bind fun t129 => (some (!(t129 != 0)))) else (some (!false))) else (if a1_0 = 15 then (if a0_3 = true then ((api_Bits.f a1_7).bind fun t130 => (some (!(t130 != 0)))) else (some (!false))) else (some (!true)))))) else (if a0_2 = true then (if a1_5.toList = ([] : List UInt8) then (if a1_6.toList = ([] : List UInt8) then (if a0_3 = true then ((api_Bits.f a1_7).bind fun t131 => (some (!(t131 != 0)))) else (some (!false))) else (if a1_0 = 15 then (if a0_3 = true then ((api_Bits.f a1_7).bind fun t132 => (some (!(t132 != 0)))) else (some (!false))) else (some (!true)))) else (some (!true))) else (if a1_6.toList = ([] : List UInt8) then (if a0_3 = true then ((api_Bits.f a1_7).bind fun t133 => (some (!(t133 != 0)))) else (some (!false))) else (if a1_0 = 15 then (if a0_3 = true then ((api_Bits.f a1_7).bind fun t134 => (some (!(t134 != 0)))) else (some (!false))) else (some (!true))))))) = some r := h
 clear h
 go_enter Tryz.func72, Tryz.ntmps72
 go_upto_region 1 with (first | ((with_reducible refine gate_dst (N := 2) rfl ?_); (try (refine gate_guard (by rfl) ?_; dsimp only)); refine box_event ?hg (N := 2) ?hd (cs := #[.bool false, .bool false, .bool false, .bool false]) (t := 110) ?hr ?_; (case hd => rfl); (case hg => rfl); (case hr => first | (go_simp; done) | (go_simp; rfl)); intro gb117 hg w277 hbox hb; have n0_ := Aside0.mk (below_step sqB hb); have n1_ := Aside0.mk (hbox); have n2_ := Aside0.mk ((by rw [hg]; exact (below_size sqB) : w.heap.size ≤ gb117)); have n3_ := Aside0.mk ((by rw [hg]; exact (below_size sqB) : w.heap.size ≤ gb117)); clear HB; have HB := n0_; have BK117 := n1_; have GW117 := n2_; have GE117 := n3_; clear n0_ n1_ n2_ n3_; clear hb hbox hg) | ((with_reducible refine gate_dst (N := 3) rfl ?_); (try (refine gate_guard (by rfl) ?_; dsimp only)); refine box_event ?hg (N := 3) ?hd (cs := #[.int .i64 a1_0, .int .i64 a1_1, .int .i64 a1_2, .int .i64 a1_3, .slice A1_4 l1_4.length c1_4, .string a1_5, .string a1_6, .float .f64 a1_7]) (t := 25) ?hr ?_; (case hd => rfl); (case hg => rfl); (case hr => first | (go_simp; done) | (go_simp; rfl)); intro gb118 hg w278 hbox hb; have n0_ := Aside0.mk (sqM BK117.out hb); have n1_ := Aside0.mk (below_step sqH hb); have n2_ := Aside0.mk (hbox); have n3_ := Aside0.mk ((by rw [hg]; exact (below_size sqH) : w.heap.size ≤ gb118)); have n4_ := Aside0.mk ((by rw [hg]; exact (below_size sqH) : w.heap.size ≤ gb118)); have n5_ := Aside0.mk ((by rw [hg]; exact Nat.ne_of_lt (blk_lt (g := gb117) (o := .cells #[.bool false, .bool false, .bool false, .bool false] 110 (0, 0)) (sqK BK117.out)) : gb117 ≠ gb118)); have n6_ := Aside0.mk ((by rw [hg]; exact Nat.ne_of_gt (blk_lt (g := gb117) (o := .cells #[.bool false, .bool false, .bool false, .bool false] 110 (0, 0)) (sqK BK117.out)) : gb118 ≠ gb117)); clear BK117; clear HB; have BK117 := n0_; have HB := n1_; have BK118 := n2_; have GW118 := n3_; have GE118 := n4_; have NB117_118 := n5_; have NB118_117 := n6_; clear n0_ n1_ n2_ n3_ n4_ n5_ n6_; clear hb hbox hg; have hnb279 := NB117_118.out; have hnc279 := NB118_117.out; obtain ⟨hcz280_0, hcz280_1, hcz280_2, hcz280_3, hfz280_0, hfz280_1, hfz280_2, hfz280_3⟩ := box4 BK117.out; obtain ⟨z0, z1, z2, z3, z4, z5, z6, z7, y0, y1, y2, y3, y4, y5, y6, y7⟩ := box8 BK118.out))
 by_cases c3 : a0_0 = true
 case neg =>
  replace c3 := Bool.eq_false_iff.mpr c3
  subst c3
  rw [if_neg (show ¬ (false = true) by decide)] at H
  by_cases c155 : a0_1 = true
  case neg =>
   replace c155 := Bool.eq_false_iff.mpr c155
   subst c155
   rw [if_neg (show ¬ (false = true) by decide)] at H
   by_cases c231 : a0_2 = true
   case neg =>
    replace c231 := Bool.eq_false_iff.mpr c231
    subst c231
    rw [if_neg (show ¬ (false = true) by decide)] at H
    by_cases c269 : a1_6.toList = ([] : List UInt8)
    ·rw [if_pos c269] at H
     have c269b0 := beq_iff_eq.mpr c269
     have c269b1 := bne_eq_false_iff_eq.mpr c269
     clear c269
     by_cases c270 : a0_3 = true
     ·subst c270
      rw [if_pos rfl] at H
      obtain ⟨t133, A271, H⟩ := sqO H
      try dsimp only at H
      obtain rfl := Option.some.inj H
      go_wp2_with (first | (go_at_call 52; (with_reducible refine (api_Bits.calls a1_7 t133 _ A271.out).mono ?_); rintro e w' ⟨rfl, ⟨nd, rfl⟩⟩))
      go_ret
      exact ⟨sqE', sqH⟩
     replace c270 := Bool.eq_false_iff.mpr c270
     subst c270
     rw [if_neg (show ¬ (false = true) by decide)] at H
     obtain rfl := Option.some.inj H
     go_wp2
     go_ret
     exact ⟨sqE', sqH⟩
    rw [if_neg c269] at H
    have c269b0 := beq_eq_false_iff_ne.mpr c269
    have c269b1 := bne_iff_ne.mpr c269
    by_cases c282 : a1_0 = 15
    case neg =>
     rw [if_neg c282] at H
     have c282b0 := beq_eq_false_iff_ne.mpr c282
     have c282b1 := bne_iff_ne.mpr c282
     obtain rfl := Option.some.inj H
     go_wp2
     go_ret
     exact ⟨sqE', sqH⟩
    rw [if_pos c282] at H
    have c282b0 := beq_iff_eq.mpr c282
    have c282b1 := bne_eq_false_iff_eq.mpr c282
    clear c282
    by_cases c283 : a0_3 = true
    ·subst c283
     rw [if_pos rfl] at H
     obtain ⟨t134, A284, H⟩ := sqO H
     try dsimp only at H
     obtain rfl := Option.some.inj H
     go_wp2_with (first | (go_at_call 52; (with_reducible refine (api_Bits.calls a1_7 t134 _ A284.out).mono ?_); rintro e w' ⟨rfl, ⟨nd, rfl⟩⟩))
     go_ret
     exact ⟨sqE', sqH⟩
    replace c283 := Bool.eq_false_iff.mpr c283
    subst c283
    rw [if_neg (show ¬ (false = true) by decide)] at H
    obtain rfl := Option.some.inj H
    go_wp2
    go_ret
    exact ⟨sqE', sqH⟩
   subst c231
   rw [if_pos rfl] at H
   by_cases c232 : a1_5.toList = ([] : List UInt8)
   case neg =>
    rw [if_neg c232] at H
    have c232b0 := beq_eq_false_iff_ne.mpr c232
    have c232b1 := bne_iff_ne.mpr c232
    obtain rfl := Option.some.inj H
    go_wp2
    go_ret
    exact ⟨sqE', sqH⟩
   rw [if_pos c232] at H
   have c232b0 := beq_iff_eq.mpr c232
   have c232b1 := bne_eq_false_iff_eq.mpr c232
   clear c232
   by_cases c233 : a1_6.toList = ([] : List UInt8)
   ·rw [if_pos c233] at H
    have c233b0 := beq_iff_eq.mpr c233
    have c233b1 := bne_eq_false_iff_eq.mpr c233
    clear c233
    by_cases c234 : a0_3 = true
    ·subst c234
     rw [if_pos rfl] at H
     obtain ⟨t131, A235, H⟩ := sqO H
     try dsimp only at H
     obtain rfl := Option.some.inj H
     go_wp2_with (first | (go_at_call 52; (with_reducible refine (api_Bits.calls a1_7 t131 _ A235.out).mono ?_); rintro e w' ⟨rfl, ⟨nd, rfl⟩⟩))
     go_ret
     exact ⟨sqE', sqH⟩
    replace c234 := Bool.eq_false_iff.mpr c234
    subst c234
    rw [if_neg (show ¬ (false = true) by decide)] at H
    obtain rfl := Option.some.inj H
    go_wp2
    go_ret
    exact ⟨sqE', sqH⟩
   rw [if_neg c233] at H
   have c233b0 := beq_eq_false_iff_ne.mpr c233
   have c233b1 := bne_iff_ne.mpr c233
   by_cases c246 : a1_0 = 15
   case neg =>
    rw [if_neg c246] at H
    have c246b0 := beq_eq_false_iff_ne.mpr c246
    have c246b1 := bne_iff_ne.mpr c246
    obtain rfl := Option.some.inj H
    go_wp2
    go_ret
    exact ⟨sqE', sqH⟩
   rw [if_pos c246] at H
   have c246b0 := beq_iff_eq.mpr c246
   have c246b1 := bne_eq_false_iff_eq.mpr c246
   clear c246
   by_cases c247 : a0_3 = true
   ·subst c247
    rw [if_pos rfl] at H
    obtain ⟨t132, A248, H⟩ := sqO H
    try dsimp only at H
    obtain rfl := Option.some.inj H
    go_wp2_with (first | (go_at_call 52; (with_reducible refine (api_Bits.calls a1_7 t132 _ A248.out).mono ?_); rintro e w' ⟨rfl, ⟨nd, rfl⟩⟩))
    go_ret
    exact ⟨sqE', sqH⟩
   replace c247 := Bool.eq_false_iff.mpr c247
   subst c247
   rw [if_neg (show ¬ (false = true) by decide)] at H
   obtain rfl := Option.some.inj H
   go_wp2
   go_ret
   exact ⟨sqE', sqH⟩
  subst c155
  rw [if_pos rfl] at H
  by_cases c156 : (l1_4.length : Int) > 0
  ·rw [if_pos c156] at H
   have c156b0 := decide_eq_true c156
   have c156b1 : decide (0 < l1_4.length) = true := decide_eq_true (by omega)
   clear c156
   obtain rfl := Option.some.inj H
   go_wp2
   go_ret
   exact ⟨sqE', sqH⟩
  rw [if_neg c156] at H
  have c156b0 := decide_eq_false c156
  have c156b1 : decide (0 < l1_4.length) = false := decide_eq_false (by omega)
  clear c156
  by_cases c162 : a0_2 = true
  case neg =>
   replace c162 := Bool.eq_false_iff.mpr c162
   subst c162
   rw [if_neg (show ¬ (false = true) by decide)] at H
   by_cases c200 : a1_6.toList = ([] : List UInt8)
   ·rw [if_pos c200] at H
    have c200b0 := beq_iff_eq.mpr c200
    have c200b1 := bne_eq_false_iff_eq.mpr c200
    clear c200
    by_cases c201 : a0_3 = true
    ·subst c201
     rw [if_pos rfl] at H
     obtain ⟨t129, A202, H⟩ := sqO H
     try dsimp only at H
     obtain rfl := Option.some.inj H
     go_wp2_with (first | (go_at_call 52; (with_reducible refine (api_Bits.calls a1_7 t129 _ A202.out).mono ?_); rintro e w' ⟨rfl, ⟨nd, rfl⟩⟩))
     go_ret
     exact ⟨sqE', sqH⟩
    replace c201 := Bool.eq_false_iff.mpr c201
    subst c201
    rw [if_neg (show ¬ (false = true) by decide)] at H
    obtain rfl := Option.some.inj H
    go_wp2
    go_ret
    exact ⟨sqE', sqH⟩
   rw [if_neg c200] at H
   have c200b0 := beq_eq_false_iff_ne.mpr c200
   have c200b1 := bne_iff_ne.mpr c200
   by_cases c213 : a1_0 = 15
   case neg =>
    rw [if_neg c213] at H
    have c213b0 := beq_eq_false_iff_ne.mpr c213
    have c213b1 := bne_iff_ne.mpr c213
    obtain rfl := Option.some.inj H
    go_wp2
    go_ret
    exact ⟨sqE', sqH⟩
   rw [if_pos c213] at H
   have c213b0 := beq_iff_eq.mpr c213
   have c213b1 := bne_eq_false_iff_eq.mpr c213
   clear c213
   by_cases c214 : a0_3 = true
   ·subst c214
    rw [if_pos rfl] at H
    obtain ⟨t130, A215, H⟩ := sqO H
    try dsimp only at H
    obtain rfl := Option.some.inj H
    go_wp2_with (first | (go_at_call 52; (with_reducible refine (api_Bits.calls a1_7 t130 _ A215.out).mono ?_); rintro e w' ⟨rfl, ⟨nd, rfl⟩⟩))
    go_ret
    exact ⟨sqE', sqH⟩
   replace c214 := Bool.eq_false_iff.mpr c214
   subst c214
   rw [if_neg (show ¬ (false = true) by decide)] at H
   obtain rfl := Option.some.inj H
   go_wp2
   go_ret
   exact ⟨sqE', sqH⟩
  subst c162
  rw [if_pos rfl] at H
  by_cases c163 : a1_5.toList = ([] : List UInt8)
  case neg =>
   rw [if_neg c163] at H
   have c163b0 := beq_eq_false_iff_ne.mpr c163
   have c163b1 := bne_iff_ne.mpr c163
   obtain rfl := Option.some.inj H
   go_wp2
   go_ret
   exact ⟨sqE', sqH⟩
  rw [if_pos c163] at H
  have c163b0 := beq_iff_eq.mpr c163
  have c163b1 := bne_eq_false_iff_eq.mpr c163
  clear c163
  by_cases c164 : a1_6.toList = ([] : List UInt8)
  ·rw [if_pos c164] at H
   have c164b0 := beq_iff_eq.mpr c164
   have c164b1 := bne_eq_false_iff_eq.mpr c164
   clear c164
   by_cases c165 : a0_3 = true
   ·subst c165
    rw [if_pos rfl] at H
    obtain ⟨t127, A166, H⟩ := sqO H
    try dsimp only at H
    obtain rfl := Option.some.inj H
    go_wp2_with (first | (go_at_call 52; (with_reducible refine (api_Bits.calls a1_7 t127 _ A166.out).mono ?_); rintro e w' ⟨rfl, ⟨nd, rfl⟩⟩))
    go_ret
    exact ⟨sqE', sqH⟩
   replace c165 := Bool.eq_false_iff.mpr c165
   subst c165
   rw [if_neg (show ¬ (false = true) by decide)] at H
   obtain rfl := Option.some.inj H
   go_wp2
   go_ret
   exact ⟨sqE', sqH⟩
  rw [if_neg c164] at H
  have c164b0 := beq_eq_false_iff_ne.mpr c164
  have c164b1 := bne_iff_ne.mpr c164
  by_cases c177 : a1_0 = 15
  case neg =>
   rw [if_neg c177] at H
   have c177b0 := beq_eq_false_iff_ne.mpr c177
   have c177b1 := bne_iff_ne.mpr c177
   obtain rfl := Option.some.inj H
   go_wp2
   go_ret
   exact ⟨sqE', sqH⟩
  rw [if_pos c177] at H
  have c177b0 := beq_iff_eq.mpr c177
  have c177b1 := bne_eq_false_iff_eq.mpr c177
  clear c177
  by_cases c178 : a0_3 = true
  ·subst c178
   rw [if_pos rfl] at H
   obtain ⟨t128, A179, H⟩ := sqO H
   try dsimp only at H
   obtain rfl := Option.some.inj H
   go_wp2_with (first | (go_at_call 52; (with_reducible refine (api_Bits.calls a1_7 t128 _ A179.out).mono ?_); rintro e w' ⟨rfl, ⟨nd, rfl⟩⟩))
   go_ret
   exact ⟨sqE', sqH⟩
  replace c178 := Bool.eq_false_iff.mpr c178
  subst c178
  rw [if_neg (show ¬ (false = true) by decide)] at H
  obtain rfl := Option.some.inj H
  go_wp2
  go_ret
  exact ⟨sqE', sqH⟩
 subst c3
 rw [if_pos rfl] at H
 by_cases c4 : a1_3 = 0
 case neg =>
  rw [if_neg c4] at H
  have c4b0 := beq_eq_false_iff_ne.mpr c4
  have c4b1 := bne_iff_ne.mpr c4
  obtain rfl := Option.some.inj H
  go_wp2
  go_ret
  exact ⟨sqE', sqH⟩
 rw [if_pos c4] at H
 have c4b0 := beq_iff_eq.mpr c4
 have c4b1 := bne_eq_false_iff_eq.mpr c4
 clear c4
 by_cases c5 : a0_1 = true
 case neg =>
  replace c5 := Bool.eq_false_iff.mpr c5
  subst c5
  rw [if_neg (show ¬ (false = true) by decide)] at H
  by_cases c81 : a0_2 = true
  case neg =>
   replace c81 := Bool.eq_false_iff.mpr c81
   subst c81
   rw [if_neg (show ¬ (false = true) by decide)] at H
   by_cases c119 : a1_6.toList = ([] : List UInt8)
   ·rw [if_pos c119] at H
    have c119b0 := beq_iff_eq.mpr c119
    have c119b1 := bne_eq_false_iff_eq.mpr c119
    clear c119
    by_cases c120 : a0_3 = true
    ·subst c120
     rw [if_pos rfl] at H
     obtain ⟨t125, A121, H⟩ := sqO H
     try dsimp only at H
     obtain rfl := Option.some.inj H
     go_wp2_with (first | (go_at_call 52; (with_reducible refine (api_Bits.calls a1_7 t125 _ A121.out).mono ?_); rintro e w' ⟨rfl, ⟨nd, rfl⟩⟩))
     go_ret
     exact ⟨sqE', sqH⟩
    replace c120 := Bool.eq_false_iff.mpr c120
    subst c120
    rw [if_neg (show ¬ (false = true) by decide)] at H
    obtain rfl := Option.some.inj H
    go_wp2
    go_ret
    exact ⟨sqE', sqH⟩
   rw [if_neg c119] at H
   have c119b0 := beq_eq_false_iff_ne.mpr c119
   have c119b1 := bne_iff_ne.mpr c119
   by_cases c132 : a1_0 = 15
   case neg =>
    rw [if_neg c132] at H
    have c132b0 := beq_eq_false_iff_ne.mpr c132
    have c132b1 := bne_iff_ne.mpr c132
    obtain rfl := Option.some.inj H
    go_wp2
    go_ret
    exact ⟨sqE', sqH⟩
   rw [if_pos c132] at H
   have c132b0 := beq_iff_eq.mpr c132
   have c132b1 := bne_eq_false_iff_eq.mpr c132
   clear c132
   by_cases c133 : a0_3 = true
   ·subst c133
    rw [if_pos rfl] at H
    obtain ⟨t126, A134, H⟩ := sqO H
    try dsimp only at H
    obtain rfl := Option.some.inj H
    go_wp2_with (first | (go_at_call 52; (with_reducible refine (api_Bits.calls a1_7 t126 _ A134.out).mono ?_); rintro e w' ⟨rfl, ⟨nd, rfl⟩⟩))
    go_ret
    exact ⟨sqE', sqH⟩
   replace c133 := Bool.eq_false_iff.mpr c133
   subst c133
   rw [if_neg (show ¬ (false = true) by decide)] at H
   obtain rfl := Option.some.inj H
   go_wp2
   go_ret
   exact ⟨sqE', sqH⟩
  subst c81
  rw [if_pos rfl] at H
  by_cases c82 : a1_5.toList = ([] : List UInt8)
  case neg =>
   rw [if_neg c82] at H
   have c82b0 := beq_eq_false_iff_ne.mpr c82
   have c82b1 := bne_iff_ne.mpr c82
   obtain rfl := Option.some.inj H
   go_wp2
   go_ret
   exact ⟨sqE', sqH⟩
  rw [if_pos c82] at H
  have c82b0 := beq_iff_eq.mpr c82
  have c82b1 := bne_eq_false_iff_eq.mpr c82
  clear c82
  by_cases c83 : a1_6.toList = ([] : List UInt8)
  ·rw [if_pos c83] at H
   have c83b0 := beq_iff_eq.mpr c83
   have c83b1 := bne_eq_false_iff_eq.mpr c83
   clear c83
   by_cases c84 : a0_3 = true
   ·subst c84
    rw [if_pos rfl] at H
    obtain ⟨t123, A85, H⟩ := sqO H
    try dsimp only at H
    obtain rfl := Option.some.inj H
    go_wp2_with (first | (go_at_call 52; (with_reducible refine (api_Bits.calls a1_7 t123 _ A85.out).mono ?_); rintro e w' ⟨rfl, ⟨nd, rfl⟩⟩))
    go_ret
    exact ⟨sqE', sqH⟩
   replace c84 := Bool.eq_false_iff.mpr c84
   subst c84
   rw [if_neg (show ¬ (false = true) by decide)] at H
   obtain rfl := Option.some.inj H
   go_wp2
   go_ret
   exact ⟨sqE', sqH⟩
  rw [if_neg c83] at H
  have c83b0 := beq_eq_false_iff_ne.mpr c83
  have c83b1 := bne_iff_ne.mpr c83
  by_cases c96 : a1_0 = 15
  case neg =>
   rw [if_neg c96] at H
   have c96b0 := beq_eq_false_iff_ne.mpr c96
   have c96b1 := bne_iff_ne.mpr c96
   obtain rfl := Option.some.inj H
   go_wp2
   go_ret
   exact ⟨sqE', sqH⟩
  rw [if_pos c96] at H
  have c96b0 := beq_iff_eq.mpr c96
  have c96b1 := bne_eq_false_iff_eq.mpr c96
  clear c96
  by_cases c97 : a0_3 = true
  ·subst c97
   rw [if_pos rfl] at H
   obtain ⟨t124, A98, H⟩ := sqO H
   try dsimp only at H
   obtain rfl := Option.some.inj H
   go_wp2_with (first | (go_at_call 52; (with_reducible refine (api_Bits.calls a1_7 t124 _ A98.out).mono ?_); rintro e w' ⟨rfl, ⟨nd, rfl⟩⟩))
   go_ret
   exact ⟨sqE', sqH⟩
  replace c97 := Bool.eq_false_iff.mpr c97
  subst c97
  rw [if_neg (show ¬ (false = true) by decide)] at H
  obtain rfl := Option.some.inj H
  go_wp2
  go_ret
  exact ⟨sqE', sqH⟩
 subst c5
 rw [if_pos rfl] at H
 by_cases c6 : (l1_4.length : Int) > 0
 ·rw [if_pos c6] at H
  have c6b0 := decide_eq_true c6
  have c6b1 : decide (0 < l1_4.length) = true := decide_eq_true (by omega)
  clear c6
  obtain rfl := Option.some.inj H
  go_wp2
  go_ret
  exact ⟨sqE', sqH⟩
 rw [if_neg c6] at H
 have c6b0 := decide_eq_false c6
 have c6b1 : decide (0 < l1_4.length) = false := decide_eq_false (by omega)
 clear c6
 by_cases c12 : a0_2 = true
 case neg =>
  replace c12 := Bool.eq_false_iff.mpr c12
  subst c12
  rw [if_neg (show ¬ (false = true) by decide)] at H
  by_cases c50 : a1_6.toList = ([] : List UInt8)
  ·rw [if_pos c50] at H
   have c50b0 := beq_iff_eq.mpr c50
   have c50b1 := bne_eq_false_iff_eq.mpr c50
   clear c50
   by_cases c51 : a0_3 = true
   ·subst c51
    rw [if_pos rfl] at H
    obtain ⟨t121, A52, H⟩ := sqO H
    try dsimp only at H
    obtain rfl := Option.some.inj H
    go_wp2_with (first | (go_at_call 52; (with_reducible refine (api_Bits.calls a1_7 t121 _ A52.out).mono ?_); rintro e w' ⟨rfl, ⟨nd, rfl⟩⟩))
    go_ret
    exact ⟨sqE', sqH⟩
   replace c51 := Bool.eq_false_iff.mpr c51
   subst c51
   rw [if_neg (show ¬ (false = true) by decide)] at H
   obtain rfl := Option.some.inj H
   go_wp2
   go_ret
   exact ⟨sqE', sqH⟩
  rw [if_neg c50] at H
  have c50b0 := beq_eq_false_iff_ne.mpr c50
  have c50b1 := bne_iff_ne.mpr c50
  by_cases c63 : a1_0 = 15
  case neg =>
   rw [if_neg c63] at H
   have c63b0 := beq_eq_false_iff_ne.mpr c63
   have c63b1 := bne_iff_ne.mpr c63
   obtain rfl := Option.some.inj H
   go_wp2
   go_ret
   exact ⟨sqE', sqH⟩
  rw [if_pos c63] at H
  have c63b0 := beq_iff_eq.mpr c63
  have c63b1 := bne_eq_false_iff_eq.mpr c63
  clear c63
  by_cases c64 : a0_3 = true
  ·subst c64
   rw [if_pos rfl] at H
   obtain ⟨t122, A65, H⟩ := sqO H
   try dsimp only at H
   obtain rfl := Option.some.inj H
   go_wp2_with (first | (go_at_call 52; (with_reducible refine (api_Bits.calls a1_7 t122 _ A65.out).mono ?_); rintro e w' ⟨rfl, ⟨nd, rfl⟩⟩))
   go_ret
   exact ⟨sqE', sqH⟩
  replace c64 := Bool.eq_false_iff.mpr c64
  subst c64
  rw [if_neg (show ¬ (false = true) by decide)] at H
  obtain rfl := Option.some.inj H
  go_wp2
  go_ret
  exact ⟨sqE', sqH⟩
 subst c12
 rw [if_pos rfl] at H
 by_cases c13 : a1_5.toList = ([] : List UInt8)
 case neg =>
  rw [if_neg c13] at H
  have c13b0 := beq_eq_false_iff_ne.mpr c13
  have c13b1 := bne_iff_ne.mpr c13
  obtain rfl := Option.some.inj H
  go_wp2
  go_ret
  exact ⟨sqE', sqH⟩
 rw [if_pos c13] at H
 have c13b0 := beq_iff_eq.mpr c13
 have c13b1 := bne_eq_false_iff_eq.mpr c13
 clear c13
 by_cases c14 : a1_6.toList = ([] : List UInt8)
 ·rw [if_pos c14] at H
  have c14b0 := beq_iff_eq.mpr c14
  have c14b1 := bne_eq_false_iff_eq.mpr c14
  clear c14
  by_cases c15 : a0_3 = true
  ·subst c15
   rw [if_pos rfl] at H
   obtain ⟨t119, A16, H⟩ := sqO H
   try dsimp only at H
   obtain rfl := Option.some.inj H
   go_wp2_with (first | (go_at_call 52; (with_reducible refine (api_Bits.calls a1_7 t119 _ A16.out).mono ?_); rintro e w' ⟨rfl, ⟨nd, rfl⟩⟩))
   go_ret
   exact ⟨sqE', sqH⟩
  replace c15 := Bool.eq_false_iff.mpr c15
  subst c15
  rw [if_neg (show ¬ (false = true) by decide)] at H
  obtain rfl := Option.some.inj H
  go_wp2
  go_ret
  exact ⟨sqE', sqH⟩
 rw [if_neg c14] at H
 have c14b0 := beq_eq_false_iff_ne.mpr c14
 have c14b1 := bne_iff_ne.mpr c14
 by_cases c27 : a1_0 = 15
 case neg =>
  rw [if_neg c27] at H
  have c27b0 := beq_eq_false_iff_ne.mpr c27
  have c27b1 := bne_iff_ne.mpr c27
  obtain rfl := Option.some.inj H
  go_wp2
  go_ret
  exact ⟨sqE', sqH⟩
 rw [if_pos c27] at H
 have c27b0 := beq_iff_eq.mpr c27
 have c27b1 := bne_eq_false_iff_eq.mpr c27
 clear c27
 by_cases c28 : a0_3 = true
 ·subst c28
  rw [if_pos rfl] at H
  obtain ⟨t120, A29, H⟩ := sqO H
  try dsimp only at H
  obtain rfl := Option.some.inj H
  go_wp2_with (first | (go_at_call 52; (with_reducible refine (api_Bits.calls a1_7 t120 _ A29.out).mono ?_); rintro e w' ⟨rfl, ⟨nd, rfl⟩⟩))
  go_ret
  exact ⟨sqE', sqH⟩
 replace c28 := Bool.eq_false_iff.mpr c28
 subst c28
 rw [if_neg (show ¬ (false = true) by decide)] at H
 obtain rfl := Option.some.inj H
 go_wp2
 go_ret
 exact ⟨sqE', sqH⟩
def scalar_Valid.f (a0 : Int) : Option (Bool) := if a0 ≥ 0 then (if a0 ≤ 1114111 then (if a0 < 55296 then (some true) else (some (decide (a0 > 57343)))) else (some false)) else (some false)
theorem scalar_Valid.calls (a0 : Int) (r : Bool) (w : World) (h : scalar_Valid.f a0 = some r) :
  Calls Tryz.prog 102 #[.int .i32 a0] w fun e w' => e = .returned (.bool r) ∧ Drawn0 w w' := by
 have H : (if a0 ≥ 0 then (if a0 ≤ 1114111 then (if a0 < 55296 then (some true) else (some (decide (a0 > 57343)))) else (some false)) else (some false)) = some r := h
 clear h
 by_cases c2 : a0 ≥ 0
 case neg =>
  rw [if_neg c2] at H
  have c2b0 := decide_eq_false c2
  clear c2
  obtain rfl := Option.some.inj H
  go_enter Tryz.func102, Tryz.ntmps102
  go_wp2
  go_ret
  exact ⟨sqE, sqW⟩
 rw [if_pos c2] at H
 have c2b0 := decide_eq_true c2
 clear c2
 by_cases c3 : a0 ≤ 1114111
 case neg =>
  rw [if_neg c3] at H
  have c3b0 := decide_eq_false c3
  clear c3
  obtain rfl := Option.some.inj H
  go_enter Tryz.func102, Tryz.ntmps102
  go_wp2
  go_ret
  exact ⟨sqE, sqW⟩
 rw [if_pos c3] at H
 have c3b0 := decide_eq_true c3
 clear c3
 by_cases c4 : a0 < 55296
 ·rw [if_pos c4] at H
  have c4b0 := decide_eq_true c4
  clear c4
  obtain rfl := Option.some.inj H
  go_enter Tryz.func102, Tryz.ntmps102
  go_wp2
  go_ret
  exact ⟨sqE, sqW⟩
 rw [if_neg c4] at H
 have c4b0 := decide_eq_false c4
 clear c4
 obtain rfl := Option.some.inj H
 go_enter Tryz.func102, Tryz.ntmps102
 go_wp2
 go_ret
 exact ⟨sqE, sqW⟩
end Go.Proofs.YtnoppeocbfapdaaGreatDoor.T
