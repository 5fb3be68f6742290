import Derived.Test.YtplnakmpogepmabScanLinesL
namespace Go.Proofs.Ytplnakmpogepmab.Pure
open Go.RowKit Go.Proofs.Ytplnakmpogepmab.A Go.Proofs.YtplnakmpogepmabW.PrintWords Go.Proofs.YtplnakmpogepmabW.PrintLast
theorem ScanLines (a0 : ByteArray)  (hb : a0.size ≤ 1048576) : ∃ k, endonymlaw5_ScanLines.f k a0 = some true := Plain.ScanLines_ok a0 hb
end Go.Proofs.Ytplnakmpogepmab.Pure
