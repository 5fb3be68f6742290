/- What is left of TableFinds (endonymlaw6) behind the walk: for records and numbers of a bulk of at most 1048576 the law's function answers true, with enough rounds. -/
import Derived.Test.YtnoppeocbfapdaaGreatDoorTabFindsL
namespace Go.Proofs.YtnoppeocbfapdaaGreatDoor.Pure
open Go.RowKit Go.Proofs.YtnoppeocbfapdaaGreatDoor.T Go.Proofs.YtnoppeocbfapdaaGreatDoorW.PrintWords Go.Proofs.YtnoppeocbfapdaaGreatDoorW.PrintLast
theorem TableFinds (l0 : List (S25)) (a1 : Int) (l2 : List Int) (w0 : ∀ x ∈ l0, Upto.WfRec x) (_w1 : (Lit.int .i64 a1).wf = true) (w2 : ∀ x ∈ l2, (Lit.int .i32 x).wf = true) (hb : (l0.map fun x => x.f4.length + x.f5.size + x.f6.size + 1).sum + l2.length ≤ 1048576) : ∃ k, endonymlaw6_TableFinds.f k l0 a1 l2 = some true :=
  Plain.law_finds l0 a1 l2 w0 w2 hb
end Go.Proofs.YtnoppeocbfapdaaGreatDoor.Pure
