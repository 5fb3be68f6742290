import Derived.Test.YtplnakmpogepmabDoorScanBackL
namespace Go.Proofs.YtplnakmpogepmabDoor.Pure
open Go.RowKit Go.Proofs.YtplnakmpogepmabDoor.A Go.Proofs.YtplnakmpogepmabDoorW.PrintWords Go.Proofs.YtplnakmpogepmabDoorW.PrintLast
set_option linter.unusedVariables false in
theorem ScanBack (a0 : ByteArray) (a1 : Int) (a2 : Int) (a3 : Int) (w1 : (Lit.int .i32 a1).wf = true) (w2 : (Lit.int .i32 a2).wf = true) (w3 : (Lit.int .i64 a3).wf = true) (hb : a0.size ≤ 1152921504606846976) : ∃ k, endonymlaw5_ScanBack.f k a0 a1 a2 a3 = some true := by
  simp only [Lit.wf, Bool.and_eq_true, decide_eq_true_eq, show IntKind.i64.min = -9223372036854775808 from by decide, show IntKind.i64.max = 9223372036854775807 from by decide] at w3
  exact ⟨_, Plain.ScanBack_ok a0 hb a1 a2 a3 (by omega) (by omega)⟩
end Go.Proofs.YtplnakmpogepmabDoor.Pure
