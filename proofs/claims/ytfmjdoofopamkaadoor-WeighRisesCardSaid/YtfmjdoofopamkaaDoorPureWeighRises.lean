import Derived.Test.YtfmjdoofopamkaaDoorPlS
namespace Go.Proofs.YtfmjdoofopamkaaDoor.Pure
open Go.RowKit Go.Proofs.YtfmjdoofopamkaaDoor.W Go.Proofs.YtfmjdoofopamkaaDoorW.PrintWords Go.Proofs.YtfmjdoofopamkaaDoorW.PrintLast
theorem WeighRises (a0 : ByteArray) (a1 : ByteArray) (h0 : a0.size ≤ 1152921504606846976) (h1 : a1.size ≤ 1152921504606846976) : ∃ k, endonymlaw2_WeighRises.f k a0 a1 = some true :=
  Plain.WeighRises_ok a0 a1 (by unfold Plain.Sz; omega) (by unfold Plain.Sz; omega)
end Go.Proofs.YtfmjdoofopamkaaDoor.Pure
