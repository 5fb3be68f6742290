import Derived.Test.YtfbadcjojkgibaaDoorNameL4
namespace Go.Proofs.YtfbadcjojkgibaaDoor.Pure
open Go.RowKit Go.Proofs.YtfbadcjojkgibaaDoor.N Go.Proofs.YtfbadcjojkgibaaDoorW.PrintWords Go.Proofs.YtfbadcjojkgibaaDoorW.PrintLast
theorem NameCompares (a0 : ByteArray) (a1 : ByteArray) (hb : a0.size + a1.size ≤ 1048576) : ∃ k, endonymlaw20_NameCompares.f k a0 a1 = some true := Plain.NameCompares_ok a0 a1 (by omega) (by omega)
end Go.Proofs.YtfbadcjojkgibaaDoor.Pure
