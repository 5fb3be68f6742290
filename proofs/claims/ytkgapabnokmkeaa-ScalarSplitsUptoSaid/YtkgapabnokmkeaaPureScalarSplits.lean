import Derived.Test.YtkgapabnokmkeaaScalarSplitsL
namespace Go.Proofs.Ytkgapabnokmkeaa.Pure
open Go.Proofs.Ytkgapabnokmkeaa.A
set_option linter.unusedVariables false
theorem ScalarSplits (l0 : List Int) (w0 : ∀ x ∈ l0, (Lit.int .i32 x).wf = true) (hb : l0.length ≤ 1048576) : ∃ k, endonymlaw3_ScalarSplits.f k l0 = some true := Plain.law_splits l0 hb
end Go.Proofs.Ytkgapabnokmkeaa.Pure
