-- written by wip/pp.py of this session (the kit's print with patches); checked by Lean alone
import Derived.Test.YtfmjdoofopamkaaDoorWx0
namespace Go.Proofs.YtfmjdoofopamkaaDoor.W
open Go.RowKit Go.Proofs.YtfmjdoofopamkaaDoorW.PrintWords Go.Proofs.YtfmjdoofopamkaaDoorW.PrintLast Go.Proofs.YtfmjdoofopamkaaDoorW.PrintMore
attribute [local go_sem] max2_int min2_int max_two min_two max_three min_three max_four min_four   -- for this text's walks alone
set_option linter.unusedVariables false
set_option linter.unusedSimpArgs false

/-! ### endonymref2_digit: function 76 -/
def endonymref2_digit.f (a0 : Int) : Option (Bool) := if a0 ≥ 48 then (some (decide (a0 ≤ 57))) else (some false)
set_option maxHeartbeats 8000000 in
set_option maxRecDepth 100000 in
theorem endonymref2_digit.calls (a0 : Int) (r : Bool) (w : World) (h : endonymref2_digit.f a0 = some r) :
  Calls Tryd.prog 76 #[.int .u8 a0] w fun e w' => e = .returned (.bool r) ∧ Drawn0 w w' := by
 have H : (if a0 ≥ 48 then (some (decide (a0 ≤ 57))) else (some false)) = some r := h
 clear h
 by_cases c2 : a0 ≥ 48
 ·
  rw [if_pos c2] at H
  have c2b0 := decide_eq_true c2
  clear c2
  obtain rfl := Option.some.inj H
  go_enter Tryd.func76, Tryd.ntmps76
  go_wp2
  go_ret
  exact ⟨sqE, sqW⟩
 ·
  rw [if_neg c2] at H
  have c2b0 := decide_eq_false c2
  clear c2
  obtain rfl := Option.some.inj H
  go_enter Tryd.func76, Tryd.ntmps76
  go_wp2
  go_ret
  exact ⟨sqE, sqW⟩

end Go.Proofs.YtfmjdoofopamkaaDoor.W
