import Derived.Test.YtplnakmpogepmaaScalarLaws4
namespace Go.Proofs.Ytplnakmpogepmaa.Pure
open Go.Proofs.Ytplnakmpogepmaa.A
set_option linter.unusedVariables false
theorem ScalarEncodes (l0 : List Int) (a1 : Int) (w0 : ∀ x ∈ l0, (Lit.int .i32 x).wf = true) (w1 : (Lit.int .i32 a1).wf = true) (hb : l0.length ≤ 1048576) : ∃ k, endonymlaw3_ScalarEncodes.f k l0 a1 = some true := Plain.law_encodes l0 a1 hb
end Go.Proofs.Ytplnakmpogepmaa.Pure
