import Derived.Test.YtfmjdoofopamkaaGreatDoorWx0
import Derived.Test.YtfmjdoofopamkaaGreatDoorWx11
namespace Go.Proofs.YtfmjdoofopamkaaGreatDoor.W
open Go.RowKit Go.Proofs.YtfmjdoofopamkaaGreatDoorW.PrintWords Go.Proofs.YtfmjdoofopamkaaGreatDoorW.PrintLast Go.Proofs.YtfmjdoofopamkaaGreatDoorW.PrintMore
set_option maxHeartbeats 8000000
set_option maxRecDepth 100000
attribute [local go_sem] max2_int min2_int max_two min_two max_three min_three max_four min_four
set_option linter.unusedVariables false
set_option linter.unusedSimpArgs false
def endonymlaw2_same.f (a0 : Nat) (a1 : Int) : Option (Bool) := if (Go.bits .andNot .u64 a1 9223372036854775808) > 9218868437227405312 then (some (FloatKind.f64.format.order a0 a0 != some .eq)) else ((api_Bits.f a0).bind fun t476 => (some (t476 == a1)))
theorem endonymlaw2_same.calls (a0 : Nat) (a1 : Int) (r : Bool) (w : World) (h : endonymlaw2_same.f a0 a1 = some r) :
  Calls Tryz.prog 18 #[.float .f64 a0, .int .u64 a1] w fun e w' => e = .returned (.bool r) ∧ Drawn0 w w' := by
 have H : (if (Go.bits .andNot .u64 a1 9223372036854775808) > 9218868437227405312 then (some (FloatKind.f64.format.order a0 a0 != some .eq)) else ((api_Bits.f a0).bind fun t476 => (some (t476 == a1)))) = some r := h
 clear h
 by_cases c3 : (Go.bits .andNot .u64 a1 9223372036854775808) > 9218868437227405312
 ·rw [if_pos c3] at H
  have c3b0 := decide_eq_true c3
  clear c3
  obtain rfl := Option.some.inj H
  go_enter Tryz.func18, Tryz.ntmps18
  go_wp2
  go_ret
  exact ⟨sqE, sqW⟩
 rw [if_neg c3] at H
 have c3b0 := decide_eq_false c3
 clear c3
 obtain ⟨t476, A4, H⟩ := sqO H
 try dsimp only at H
 obtain rfl := Option.some.inj H
 go_enter Tryz.func18, Tryz.ntmps18
 go_wp2_with (first | ((with_reducible refine gate_callee (f := 10) rfl ?_); refine goesL_ (some 12) rfl rfl Tryz.func10 (by kernel_rfl) rfl #[.float .f64 a0] rfl sqA ?_; (with_reducible refine (api_Bits.calls a0 t476 _ A4.out).mono ?_); rintro e w' ⟨rfl, ⟨nd, rfl⟩⟩; refine ⟨_, rfl, ?_⟩))
 go_ret
 exact ⟨sqE, sqW⟩
end Go.Proofs.YtfmjdoofopamkaaGreatDoor.W
