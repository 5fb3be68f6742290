import Derived.Test.YtfmjdoofopamkaaGreatDoorWx0
import Derived.Test.YtfmjdoofopamkaaGreatDoorWx8
import Derived.Test.YtfmjdoofopamkaaGreatDoorWx9
import Derived.Test.YtfmjdoofopamkaaGreatDoorWx10
import Derived.Test.YtfmjdoofopamkaaGreatDoorWx11
import Derived.Test.YtfmjdoofopamkaaGreatDoorWx12
import Derived.Test.YtfmjdoofopamkaaGreatDoorWx13
import Derived.Test.YtfmjdoofopamkaaGreatDoorWx22
import Derived.Test.YtfmjdoofopamkaaGreatDoorWx23
namespace Go.Proofs.YtfmjdoofopamkaaGreatDoor.W
open Go.RowKit Go.Proofs.YtfmjdoofopamkaaGreatDoorW.PrintWords Go.Proofs.YtfmjdoofopamkaaGreatDoorW.PrintLast Go.Proofs.YtfmjdoofopamkaaGreatDoorW.PrintMore
set_option maxHeartbeats 8000000
set_option maxRecDepth 100000
attribute [local go_sem] max2_int min2_int max_two min_two max_three min_three max_four min_four
set_option linter.unusedVariables false
set_option linter.unusedSimpArgs false
def endonymlaw2_WeighSums.l0 : Nat → List Nat → List Int → Nat → Nat → Nat → Int → Option (Bool)
 | 0, _, _, _, _, _, _ => none
 | k + 1, x3, x4, x5, x6, x7, x8 => if x8 < (x3.length : Int) then (if 0 ≤ x8 then (if (FloatKind.f64.format.order (rdOf 0 x3 x8) (rdOf 0 x3 x8) == some .eq) = true then ((api_Bits.f (rdOf 0 x3 x8)).bind fun t726 => (if x8 < (x4.length : Int) then (if t726 = (rd x4 x8) then (endonymlaw2_WeighSums.l0 k x3 x4 x5 x6 x7 (wrap64 (x8 + 1))) else (some false)) else (none))) else (endonymlaw2_WeighSums.l0 k x3 x4 x5 x6 x7 (wrap64 (x8 + 1)))) else (none)) else ((endonymlaw2_told.f k).bind fun t728 => (if t728 = true then ((endonymref2_Sum.f k x4).bind fun t729 => ((endonymlaw2_same.f x5 t729).bind fun t730 => (if t730 = true then ((endonymref2_Pairs.f k x4).bind fun t731 => ((endonymlaw2_same.f x6 t731).bind fun t732 => (if t732 = true then ((endonymref2_Exact.f k x4).bind fun t733 => ((endonymlaw2_same.f x7 t733).bind fun t734 => (some t734))) else (some false)))) else (some false)))) else (some false)))
end Go.Proofs.YtfmjdoofopamkaaGreatDoor.W
