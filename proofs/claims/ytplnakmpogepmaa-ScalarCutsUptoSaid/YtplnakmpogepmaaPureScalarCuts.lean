import Derived.Test.YtplnakmpogepmaaScalarLaws5
namespace Go.Proofs.Ytplnakmpogepmaa.Pure
open Go.Proofs.Ytplnakmpogepmaa.A
set_option linter.unusedVariables false
theorem ScalarCuts (a0 : ByteArray) (a1 : ByteArray) (l2 : List Int) (l3 : List (List Int)) (w2 : ∀ x ∈ l2, (Lit.int .i32 x).wf = true) (w3 : ∀ r ∈ l3, ∀ x ∈ r, (Lit.int .i32 x).wf = true) (hb : a0.size + a1.size + l2.length + (l3.map fun r => r.length + 1).sum ≤ 1048576) : ∃ k, endonymlaw3_ScalarCuts.f k a0 a1 l2 l3 = some true := Plain.law_cuts a0 a1 l2 l3 hb
end Go.Proofs.Ytplnakmpogepmaa.Pure
