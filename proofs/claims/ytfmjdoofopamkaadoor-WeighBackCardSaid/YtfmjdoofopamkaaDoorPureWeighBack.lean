import Derived.Test.YtfmjdoofopamkaaDoorWeighB
namespace Go.Proofs.YtfmjdoofopamkaaDoor.Pure
open Go.RowKit Go.Proofs.YtfmjdoofopamkaaDoor.W Go.Proofs.YtfmjdoofopamkaaDoorW.PrintWords Go.Proofs.YtfmjdoofopamkaaDoorW.PrintLast
theorem WeighBack (a0 : Int) (w0 : (Lit.int .u64 a0).wf = true) : ∃ k, endonymlaw2_WeighBack.f k a0 = some true := by
  obtain ⟨h0, h1⟩ := Plain.u64_wf w0
  obtain ⟨a, rfl⟩ : ∃ a : Nat, a0 = a := ⟨a0.toNat, by omega⟩
  exact Plain.WeighBack_ok a (by omega)
end Go.Proofs.YtfmjdoofopamkaaDoor.Pure
