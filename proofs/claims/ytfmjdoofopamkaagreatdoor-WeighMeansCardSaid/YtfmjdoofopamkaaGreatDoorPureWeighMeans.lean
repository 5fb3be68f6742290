import Derived.Test.YtfmjdoofopamkaaGreatDoorWeighM
namespace Go.Proofs.YtfmjdoofopamkaaGreatDoor.Pure
open Go.RowKit Go.Proofs.YtfmjdoofopamkaaGreatDoor.W Go.Proofs.YtfmjdoofopamkaaGreatDoorW.PrintWords Go.Proofs.YtfmjdoofopamkaaGreatDoorW.PrintLast
set_option linter.unusedVariables false in
theorem WeighMeans (l0 : List Int) (w0 : ∀ x ∈ l0, (Lit.int .u64 x).wf = true) : ∃ k, endonymlaw2_WeighMeans.f k l0 = some true :=
  Plain.WeighMeans_ok l0 (fun x hx => Plain.u64_wf (w0 x hx))
end Go.Proofs.YtfmjdoofopamkaaGreatDoor.Pure
