import Derived.Test.YtplnakmpogepmaaScalarLaws1
namespace Go.Proofs.Ytplnakmpogepmaa.Pure
open Go.Proofs.Ytplnakmpogepmaa.A
set_option linter.unusedVariables false
theorem ScalarDecodes (a0 : ByteArray) (hb : a0.size ≤ 1048576) : ∃ k, endonymlaw3_ScalarDecodes.f k a0 = some true := Plain.law_decodes a0 hb
end Go.Proofs.Ytplnakmpogepmaa.Pure
