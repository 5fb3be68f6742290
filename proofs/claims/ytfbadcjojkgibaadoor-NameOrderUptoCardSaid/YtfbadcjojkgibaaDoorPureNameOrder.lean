import Derived.Test.YtfbadcjojkgibaaDoorNameL3
namespace Go.Proofs.YtfbadcjojkgibaaDoor.Pure
open Go.RowKit Go.Proofs.YtfbadcjojkgibaaDoor.N Go.Proofs.YtfbadcjojkgibaaDoorW.PrintWords Go.Proofs.YtfbadcjojkgibaaDoorW.PrintLast
theorem NameOrder (a0 : ByteArray) (a1 : ByteArray) (a2 : ByteArray) (hb : a0.size + a1.size + a2.size ≤ 1048576) : ∃ k, endonymlaw20_NameOrder.f k a0 a1 a2 = some true := Plain.NameOrder_ok a0 a1 a2 (by omega) (by omega) (by omega)
end Go.Proofs.YtfbadcjojkgibaaDoor.Pure
