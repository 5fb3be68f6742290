import Derived.Test.YtnoppeocbfapdaaGreatDoorEvM
import Derived.Test.YtnoppeocbfapdaaGreatDoorWAll
/-! The table that told reads, where it lies; told's contract by the evaluator. -/
namespace Go.Proofs.YtnoppeocbfapdaaGreatDoor.Rm
open Go.RowKit Go.Proofs.YtnoppeocbfapdaaGreatDoorW.PrintWords
def Tab (w : World) : Prop := Go.Ev.PowTab w
theorem Tab.below {w w' : World} (h : Tab w) (hb : Below w.heap.size w w') : Tab w' := Go.Ev.PowTab.below h hb
end Go.Proofs.YtnoppeocbfapdaaGreatDoor.Rm
