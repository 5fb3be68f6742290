import Derived.Test.YtplnakmpogepmaaScalarLaws2
namespace Go.Proofs.Ytplnakmpogepmaa.Pure
open Go.Proofs.Ytplnakmpogepmaa.A
set_option linter.unusedVariables false
theorem ScalarFirst (a0 : ByteArray)  (hb : a0.size ≤ 1048576) : ∃ k, endonymlaw3_ScalarFirst.f k a0 = some true := Plain.law_first a0 hb
end Go.Proofs.Ytplnakmpogepmaa.Pure
