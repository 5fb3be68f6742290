import Derived.Test.YtfbadcjojkgibaaDoorNameL3
namespace Go.Proofs.YtfbadcjojkgibaaDoor.Pure
open Go.RowKit Go.Proofs.YtfbadcjojkgibaaDoor.N Go.Proofs.YtfbadcjojkgibaaDoorW.PrintWords Go.Proofs.YtfbadcjojkgibaaDoorW.PrintLast
theorem NameLies (a0 : ByteArray) (a1 : ByteArray) (a2 : ByteArray) (a3 : ByteArray) (hb : a0.size + a1.size + a2.size + a3.size ≤ 1048576) : ∃ k, endonymlaw20_NameLies.f k a0 a1 a2 a3 = some true := Plain.NameLies_ok a0 a1 a2 a3 (by omega) (by omega) (by omega) (by omega)
end Go.Proofs.YtfbadcjojkgibaaDoor.Pure
