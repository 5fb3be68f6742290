import Derived.Test.YtplnakmpogepmabScanReadsL
namespace Go.Proofs.Ytplnakmpogepmab.Pure
open Go.RowKit Go.Proofs.Ytplnakmpogepmab.A Go.Proofs.YtplnakmpogepmabW.PrintWords Go.Proofs.YtplnakmpogepmabW.PrintLast
theorem ScanReads (a0 : ByteArray)  (hb : a0.size ≤ 4611686018427387000) : ∃ k, endonymlaw5_ScanReads.f k a0 = some true := Plain.ScanReads_ok a0 hb
end Go.Proofs.Ytplnakmpogepmab.Pure
