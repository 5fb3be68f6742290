import Derived.Test.YtfbadcjojkgibaaDoorNameL3
namespace Go.Proofs.YtfbadcjojkgibaaDoor.Pure
open Go.RowKit Go.Proofs.YtfbadcjojkgibaaDoor.N Go.Proofs.YtfbadcjojkgibaaDoorW.PrintWords Go.Proofs.YtfbadcjojkgibaaDoorW.PrintLast
theorem NameUp (a0 : ByteArray) (hb : a0.size ≤ 1048576) : ∃ k, endonymlaw20_NameUp.f k a0 = some true := Plain.NameUp_ok a0 (by omega)
end Go.Proofs.YtfbadcjojkgibaaDoor.Pure
