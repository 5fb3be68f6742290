import Derived.Test.YtfmjdoofopamkaaDoorWeighF
namespace Go.Proofs.YtfmjdoofopamkaaDoor.Pure
open Go.RowKit Go.Proofs.YtfmjdoofopamkaaDoor.W Go.Proofs.YtfmjdoofopamkaaDoorW.PrintWords Go.Proofs.YtfmjdoofopamkaaDoorW.PrintLast
theorem WeighFewest (a0 : ByteArray) (h0 : a0.size ≤ 1152921504606846976) : ∃ k, endonymlaw2_WeighFewest.f k a0 = some true :=
  Plain.WeighFewest_ok a0 (by unfold Plain.Sz; omega)
end Go.Proofs.YtfmjdoofopamkaaDoor.Pure
