import Derived.Test.YtnoppeocbfapdaaGreatDoorEvK
/-! told(), by the evaluator. -/
namespace Go.Ev
open Go Go.Proofs
set_option maxRecDepth 1000000
noncomputable def H0 : HP := .mk 8 8 1000000 (Tr.setK .dead 24 .e 2 (.cells ((List.range 20).map fun i => .i .u64 (10 ^ i)) 200 false) id)
noncomputable def isTrue (o : Out) : Bool := Out.rec (motive := fun _ => Bool) (fun _ _ _ => false) (fun v _ => onV v (fun _ _ => false) (fun x => x) (fun _ _ => false) (fun _ _ _ _ => false) (fun _ => false) (fun _ => false)) false o
theorem told_ev : isTrue (ev Tryz.prog 100000 (.fn 18 [] H0)) = true := by kernel_rfl
theorem isTrue_ok {o : Out} (h : isTrue o = true) : ∃ H', o = .v (.b true) H' := by
  cases o with
  | no => cases h
  | st _ _ _ => cases h
  | v v H' => cases v with
    | b x => have : x = true := h; subst this; exact ⟨H', rfl⟩
    | _ => cases h
end Go.Ev
