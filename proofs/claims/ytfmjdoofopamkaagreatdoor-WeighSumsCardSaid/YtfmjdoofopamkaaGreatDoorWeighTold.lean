import Derived.Test.YtfmjdoofopamkaaGreatDoorPlA
import Derived.Test.YtfmjdoofopamkaaGreatDoorWx11
namespace Go.Proofs.YtfmjdoofopamkaaGreatDoor.Plain
open Go.RowKit Go.Proofs.YtfmjdoofopamkaaGreatDoorW.PrintWords Go.Proofs.YtfmjdoofopamkaaGreatDoorW.PrintLast Go.Proofs.YtfmjdoofopamkaaGreatDoorW.PrintMore Go.Proofs.YtfmjdoofopamkaaGreatDoor.W
theorem told_at : endonymlaw2_told.f 100 = some true := endonymlaw2_told.at100
theorem told_ok : Ev (fun k => endonymlaw2_told.f k) true := Ev.of (fun k => endonymlaw2_told.mono k) told_at
end Go.Proofs.YtfmjdoofopamkaaGreatDoor.Plain
