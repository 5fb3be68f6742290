/- What is left of TableOnce (endonymlaw6) behind the walk: for a list of records and a list of numbers of a bulk of at most 1048576 the law's function answers true, with enough rounds. -/
import Derived.Test.YtnoppeocbfapdaaGreatDoorTabP
namespace Go.Proofs.YtnoppeocbfapdaaGreatDoor.Pure
open Go.RowKit Go.Proofs.YtnoppeocbfapdaaGreatDoor.T Go.Proofs.YtnoppeocbfapdaaGreatDoorW.PrintWords Go.Proofs.YtnoppeocbfapdaaGreatDoorW.PrintLast
theorem TableOnce (l0 : List (S25)) (l1 : List Int) (_w0 : ∀ x ∈ l0, Upto.WfRec x) (_w1 : ∀ y ∈ l1, (Lit.int .i32 y).wf = true) (hb : (l0.map fun x => x.f4.length + x.f5.size + x.f6.size + 1).sum + l1.length ≤ 1048576) : ∃ k, endonymlaw6_TableOnce.f k l0 l1 = some true :=
  Plain.law_once l0 l1 _w0 _w1 hb
end Go.Proofs.YtnoppeocbfapdaaGreatDoor.Pure
