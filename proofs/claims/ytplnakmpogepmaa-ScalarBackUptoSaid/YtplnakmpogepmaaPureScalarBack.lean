import Derived.Test.YtplnakmpogepmaaScalarLaws3
namespace Go.Proofs.Ytplnakmpogepmaa.Pure
open Go.Proofs.Ytplnakmpogepmaa.A
set_option linter.unusedVariables false
theorem ScalarBack (l0 : List Int) (a1 : ByteArray) (w0 : ∀ x ∈ l0, (Lit.int .i32 x).wf = true) (hb : l0.length + a1.size ≤ 1048576) : ∃ k, endonymlaw3_ScalarBack.f k l0 a1 = some true := Plain.law_back l0 a1 hb
end Go.Proofs.Ytplnakmpogepmaa.Pure
