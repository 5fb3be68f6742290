/- What is left of TableMore (endonymlaw6) behind the walk: for a list of records, a record and a list of numbers of a bulk of at most 1048576 the law's function answers true, with enough rounds. -/
import Derived.Test.YtnoppeocbfapdaaGreatDoorTabP
namespace Go.Proofs.YtnoppeocbfapdaaGreatDoor.Pure
open Go.RowKit Go.Proofs.YtnoppeocbfapdaaGreatDoor.T Go.Proofs.YtnoppeocbfapdaaGreatDoorW.PrintWords Go.Proofs.YtnoppeocbfapdaaGreatDoorW.PrintLast
theorem TableMore (l0 : List (S25)) (x1 : S25) (l2 : List Int) (_w0 : ∀ x ∈ l0, Upto.WfRec x) (_w1 : Upto.WfRec x1) (_w2 : ∀ y ∈ l2, (Lit.int .i32 y).wf = true) (hb : (l0.map fun x => x.f4.length + x.f5.size + x.f6.size + 1).sum + (x1.f4.length + x1.f5.size + x1.f6.size + 1) + l2.length ≤ 1048576) : ∃ k, endonymlaw6_TableMore.f k l0 x1.f0 x1.f1 x1.f2 x1.f3 x1.f4 x1.f5 x1.f6 x1.f7 l2 = some true :=
  Plain.law_more l0 x1 l2 _w0 _w1 _w2 hb
end Go.Proofs.YtnoppeocbfapdaaGreatDoor.Pure
