import Derived.Test.YtfmjdoofopamkaaDoorWx19
import Derived.Test.YtfmjdoofopamkaaDoorWeighT
namespace Go.Proofs.YtfmjdoofopamkaaDoor.Pure
open Go.RowKit Go.Proofs.YtfmjdoofopamkaaDoor.W Go.Proofs.YtfmjdoofopamkaaDoorW.PrintWords Go.Proofs.YtfmjdoofopamkaaDoorW.PrintLast
set_option linter.unusedVariables false in
theorem WeighTurns (l0 : List Int) (l1 : List Int) (w0 : ∀ x ∈ l0, (Lit.int .u64 x).wf = true) (w1 : ∀ x ∈ l1, (Lit.int .i64 x).wf = true) : ∃ k, endonymlaw2_WeighTurns.f k l0 l1 = some true :=
  Plain.WeighTurns_ok l0 l1 (fun x hx => Plain.u64_wf (w0 x hx))
end Go.Proofs.YtfmjdoofopamkaaDoor.Pure
