import Derived.Test.YtfmjdoofopamkaaGreatDoorRefR
namespace Go.Proofs.YtfmjdoofopamkaaGreatDoor.Pure
open Go.RowKit Go.Proofs.YtfmjdoofopamkaaGreatDoor.W Go.Proofs.YtfmjdoofopamkaaGreatDoorW.PrintWords Go.Proofs.YtfmjdoofopamkaaGreatDoorW.PrintLast
theorem WeighPrints (a0 : Int) (w0 : (Lit.int .u64 a0).wf = true) : ∃ k, endonymlaw2_WeighPrints.f k a0 = some true := by
  obtain ⟨h0, h1⟩ := Plain.u64_wf w0
  obtain ⟨a, rfl⟩ : ∃ a : Nat, a0 = a := ⟨a0.toNat, by omega⟩
  exact Plain.WeighPrints_ok a (by omega)
end Go.Proofs.YtfmjdoofopamkaaGreatDoor.Pure
