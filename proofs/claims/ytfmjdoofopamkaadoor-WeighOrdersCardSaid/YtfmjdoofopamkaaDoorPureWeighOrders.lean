import Derived.Test.YtfmjdoofopamkaaDoorWx10
import Derived.Test.YtfmjdoofopamkaaDoorWeighO
namespace Go.Proofs.YtfmjdoofopamkaaDoor.Pure
open Go.RowKit Go.Proofs.YtfmjdoofopamkaaDoor.W Go.Proofs.YtfmjdoofopamkaaDoorW.PrintWords Go.Proofs.YtfmjdoofopamkaaDoorW.PrintLast
theorem WeighOrders (a0 : Int) (a1 : Int) (w0 : (Lit.int .u64 a0).wf = true) (w1 : (Lit.int .u64 a1).wf = true) : ∃ k, endonymlaw2_WeighOrders.f k a0 a1 = some true := by
  obtain ⟨h0, h1⟩ := Plain.u64_wf w0
  obtain ⟨h2, h3⟩ := Plain.u64_wf w1
  obtain ⟨a, rfl⟩ : ∃ a : Nat, a0 = a := ⟨a0.toNat, by omega⟩
  obtain ⟨b, rfl⟩ : ∃ b : Nat, a1 = b := ⟨a1.toNat, by omega⟩
  exact Plain.WeighOrders_ok a b (by omega) (by omega)
end Go.Proofs.YtfmjdoofopamkaaDoor.Pure
