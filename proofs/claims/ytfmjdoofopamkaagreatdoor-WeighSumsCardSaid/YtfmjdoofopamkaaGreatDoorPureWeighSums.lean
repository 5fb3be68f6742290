import Derived.Test.YtfmjdoofopamkaaGreatDoorSumsW
namespace Go.Proofs.YtfmjdoofopamkaaGreatDoor.Pure
open Go.RowKit Go.Proofs.YtfmjdoofopamkaaGreatDoor.W Go.Proofs.YtfmjdoofopamkaaGreatDoorW.PrintWords Go.Proofs.YtfmjdoofopamkaaGreatDoorW.PrintLast
set_option linter.unusedVariables false in
theorem WeighSums (l0 : List Int) (w0 : ∀ x ∈ l0, (Lit.int .u64 x).wf = true) : ∃ k, endonymlaw2_WeighSumsN.f k l0 = some true := by
  obtain ⟨k, hk⟩ := Plain.sums_are l0 (fun x hx => Plain.u64_wf (w0 x hx))
  exact ⟨k, if_pos hk⟩
end Go.Proofs.YtfmjdoofopamkaaGreatDoor.Pure
