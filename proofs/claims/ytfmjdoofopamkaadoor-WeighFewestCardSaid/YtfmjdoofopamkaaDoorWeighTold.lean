import Derived.Test.YtfmjdoofopamkaaDoorPlA
import Derived.Test.YtfmjdoofopamkaaDoorWx10
/-! The program tells what the document says of a few numbers: reckoned. -/
namespace Go.Proofs.YtfmjdoofopamkaaDoor.Plain
open Go.RowKit Go.Proofs.YtfmjdoofopamkaaDoorW.PrintWords Go.Proofs.YtfmjdoofopamkaaDoorW.PrintLast Go.Proofs.YtfmjdoofopamkaaDoorW.PrintMore Go.Proofs.YtfmjdoofopamkaaDoor.W
theorem told_at : endonymlaw2_told.f 100 = some true := endonymlaw2_told.at100
theorem told_ok : Ev (fun k => endonymlaw2_told.f k) true := Ev.of (fun k => endonymlaw2_told.mono k) told_at
end Go.Proofs.YtfmjdoofopamkaaDoor.Plain
