import Derived.Test.YtplnakmpogepmabDoorScanPrintsL
namespace Go.Proofs.YtplnakmpogepmabDoor.Pure
open Go.RowKit Go.Proofs.YtplnakmpogepmabDoor.A Go.Proofs.YtplnakmpogepmabDoorW.PrintWords Go.Proofs.YtplnakmpogepmabDoorW.PrintLast
theorem ScanPrints (a0 : Int) (a1 : Int) (a2 : Int) (w0 : (Lit.int .i32 a0).wf = true) (w1 : (Lit.int .i32 a1).wf = true) (w2 : (Lit.int .i64 a2).wf = true) : ∃ k, endonymlaw5_ScanPrints.f k a0 a1 a2 = some true := by
  simp only [Lit.wf, Bool.and_eq_true, decide_eq_true_eq, show IntKind.i32.min = -2147483648 from by decide, show IntKind.i32.max = 2147483647 from by decide, show IntKind.i64.min = -9223372036854775808 from by decide, show IntKind.i64.max = 9223372036854775807 from by decide] at w0 w1 w2
  exact ⟨_, Plain.ScanPrints_ok a0 a1 a2 (by omega) (by omega) (by omega) (by omega) (by omega) (by omega)⟩
end Go.Proofs.YtplnakmpogepmabDoor.Pure
