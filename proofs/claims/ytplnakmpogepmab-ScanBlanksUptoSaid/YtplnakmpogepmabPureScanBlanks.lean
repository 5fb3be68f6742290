import Derived.Test.YtplnakmpogepmabScanBlanksL
namespace Go.Proofs.Ytplnakmpogepmab.Pure
open Go.RowKit Go.Proofs.Ytplnakmpogepmab.A Go.Proofs.YtplnakmpogepmabW.PrintWords Go.Proofs.YtplnakmpogepmabW.PrintLast
set_option linter.unusedVariables false in
theorem ScanBlanks (l0 : List ByteArray) (l1 : List Int) (a2 : ByteArray) (w1 : ∀ x ∈ l1, (Lit.int .i64 x).wf = true) (hb : (l0.map fun s => s.size + 1).sum + l1.length + a2.size ≤ 1048576) : ∃ k, endonymlaw5_ScanBlanks.f k l0 l1 a2 = some true := Plain.ScanBlanks_ok l0 l1 a2 (by omega)
end Go.Proofs.Ytplnakmpogepmab.Pure
