import Derived.Test.YtplnakmpogepmaaScalarLaws2
namespace Go.Proofs.Ytplnakmpogepmaa.Pure
open Go.Proofs.Ytplnakmpogepmaa.A
set_option linter.unusedVariables false
theorem ScalarBad (a0 : ByteArray) (a1 : ByteArray)  (hb : a0.size + a1.size ≤ 1048576) : ∃ k, endonymlaw3_ScalarBad.f k a0 a1 = some true := Plain.law_bad a0 a1 hb
end Go.Proofs.Ytplnakmpogepmaa.Pure
