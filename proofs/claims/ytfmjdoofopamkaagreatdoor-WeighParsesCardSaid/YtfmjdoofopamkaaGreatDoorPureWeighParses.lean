import Derived.Test.YtfmjdoofopamkaaGreatDoorRefP
namespace Go.Proofs.YtfmjdoofopamkaaGreatDoor.Pure
open Go.RowKit Go.Proofs.YtfmjdoofopamkaaGreatDoor.W Go.Proofs.YtfmjdoofopamkaaGreatDoorW.PrintWords Go.Proofs.YtfmjdoofopamkaaGreatDoorW.PrintLast
theorem WeighParses (a0 : ByteArray) (h0 : a0.size ≤ 1152921504606846976) : ∃ k, endonymlaw2_WeighParses.f k a0 = some true :=
  Plain.WeighParses_ok a0 (by unfold Plain.Sz; omega)
end Go.Proofs.YtfmjdoofopamkaaGreatDoor.Pure
