/- What is left of ScalarJoins (endonymlaw3) behind the walk: for lists of a bulk of at most 1048576 the law's function answers true, with enough rounds. -/
import Derived.Test.YtplnakmpogepmaaScalarJoinsL
namespace Go.Proofs.Ytplnakmpogepmaa.Pure
open Go.RowKit Go.Proofs.Ytplnakmpogepmaa.A Go.Proofs.YtplnakmpogepmaaW.PrintWords Go.Proofs.YtplnakmpogepmaaW.PrintLast
theorem ScalarJoins (l0 : List (List Int)) (w0 : ∀ r ∈ l0, ∀ x ∈ r, (Lit.int .i32 x).wf = true) (hb : (l0.map fun r => r.length + 1).sum ≤ 1048576) : ∃ k, endonymlaw3_ScalarJoins.f k l0 = some true :=
  Plain.law_joins l0 hb
end Go.Proofs.Ytplnakmpogepmaa.Pure
