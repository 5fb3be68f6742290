import Derived.Test.YtplnakmpogepmabScanReadsL
namespace Go.Proofs.Ytplnakmpogepmab.Pure
open Go.RowKit Go.Proofs.Ytplnakmpogepmab.A Go.Proofs.YtplnakmpogepmabW.PrintWords Go.Proofs.YtplnakmpogepmabW.PrintLast
theorem ScanReads (a0 : ByteArray)  (hb : a0.size ≤ 1048576) : ∃ k, endonymlaw5_ScanReads.f k a0 = some true := ⟨_, Plain.ScanReads_ok a0 hb⟩
end Go.Proofs.Ytplnakmpogepmab.Pure
