/- What is left of TableSame (endonymlaw6) behind the walk: for two lists of records of a bulk of at most 1048576 the law's function answers true, with enough rounds. -/
import Derived.Test.YtnoppeocbfapdaaGreatDoorTabSameL
namespace Go.Proofs.YtnoppeocbfapdaaGreatDoor.Pure
open Go.RowKit Go.Proofs.YtnoppeocbfapdaaGreatDoor.T Go.Proofs.YtnoppeocbfapdaaGreatDoorW.PrintWords Go.Proofs.YtnoppeocbfapdaaGreatDoorW.PrintLast
theorem TableSame (l0 : List (S25)) (l1 : List (S25)) (_w0 : ∀ x ∈ l0, Upto.WfRec x) (_w1 : ∀ x ∈ l1, Upto.WfRec x) (hb : (l0.map fun x => x.f4.length + x.f5.size + x.f6.size + 1).sum + (l1.map fun x => x.f4.length + x.f5.size + x.f6.size + 1).sum ≤ 1048576) : ∃ k, endonymlaw6_TableSame.f k l0 l1 = some true := by
  obtain ⟨M, hM⟩ : ∃ M, M = 1048576 := ⟨_, rfl⟩
  exact Plain.law_same l0 l1 M (fun x hx => by have := Plain.sum_le l0 x hx; omega) (fun x hx => by have := Plain.sum_le l1 x hx; omega) (by omega)
end Go.Proofs.YtnoppeocbfapdaaGreatDoor.Pure
