/- What is left of TableChecks (endonymlaw6) behind the walk: for a list of records of a bulk of at most 1048576 the law's function answers true, with enough rounds. -/
import Derived.Test.YtnoppeocbfapdaaGreatDoorTabP
namespace Go.Proofs.YtnoppeocbfapdaaGreatDoor.Pure
open Go.RowKit Go.Proofs.YtnoppeocbfapdaaGreatDoor.T Go.Proofs.YtnoppeocbfapdaaGreatDoorW.PrintWords Go.Proofs.YtnoppeocbfapdaaGreatDoorW.PrintLast
theorem TableChecks (l0 : List (S25)) (_w0 : ∀ x ∈ l0, Upto.WfRec x) (hb : (l0.map fun x => x.f4.length + x.f5.size + x.f6.size + 1).sum ≤ 1048576) : ∃ k, endonymlaw6_TableChecks.f k l0 = some true :=
  Plain.law_checks l0 _w0 hb
end Go.Proofs.YtnoppeocbfapdaaGreatDoor.Pure
