/-
  NARROWER THAN 'FOR EVERY INPUT', by the rows' own cells (each row's printed sentence says how): WeighNarrows: laid · WeighNaN: laid · WeighOrders: laid · WeighBack: laid · WeighFewest: laid · WeighRises: laid · WeighTurns: laid.
  DERIVED. THE GIVEN ROWS OF THIS SEAT. 7 by the template 'for every input the law returns true; each argument reads behind the call as it read before'; 0 by the template 'total and deterministic' (their statements: YtfmjdoofopamkaaDoorTotals.lean).
  GIVEN WITH THE SEED: the statements are not yours to turn. If you find one false, say at which input.
  Laid BY PROGRAM, IN A SANDBOX (cutbox-rows.mjs): the forced cells as the released guide's own fill.sh prints them over the translation 29f3c46542ab4dc0… (all of the seat's roots in one cut). By AI agents, Wed Nov 11 2026. No macro, syntax, notation, axiom, sorry.
-/
import Derived.Test.YtfmjdoofopamkaaDoorChecked
import GoSem.Claim
import GoSem.ClaimJoined
import GoSem.ClaimMapViews
import Derived.JoinedTies
import Derived.KernelRfl
namespace Go.Proofs.YtfmjdoofopamkaaDoor
/- THE CELL 'sum', in the pinned program and in every row, IS THE sha256 OF THE DUMP (.gsa) THAT YtfmjdoofopamkaaDoorProg.lean LOADS. Nothing in Lean hashes anything: it is a label: what it is worth is what the hold of that sum in a sandbox is worth. -/
noncomputable def Tryd.pinned : Pinned := { name := "ytfmjdoofopamkaadoor", sum := "29f3c46542ab4dc0f3fcec097dad2658a40b242dc3639b1fffedf464fb0137d1", checked := Tryd.checked }
namespace Rows
def none {H : Type} : Left H := { results := [], args := [] }

/- WHAT THE LISTED PACKAGE-LEVEL VARIABLES READ AS WHEN THE CALL BEGINS. Each datum BY PROGRAM (the guide's laid-datum.mjs) off the statement by which the dump's own 'gosem.cut.vars' lays the variable. In a bare row this is a premise. The card (YtfmjdoofopamkaaDoorCards.lean) ties it to the program's text. -/
def laid_math_bits_deBruijn32tab {H : Type} : DataW H := .agg [.lit (.int .u8 0), .lit (.int .u8 1), .lit (.int .u8 28), .lit (.int .u8 2), .lit (.int .u8 29), .lit (.int .u8 14), .lit (.int .u8 24), .lit (.int .u8 3), .lit (.int .u8 30), .lit (.int .u8 22), .lit (.int .u8 20), .lit (.int .u8 15), .lit (.int .u8 25), .lit (.int .u8 17), .lit (.int .u8 4), .lit (.int .u8 8), .lit (.int .u8 31), .lit (.int .u8 27), .lit (.int .u8 13), .lit (.int .u8 23), .lit (.int .u8 21), .lit (.int .u8 19), .lit (.int .u8 16), .lit (.int .u8 7), .lit (.int .u8 26), .lit (.int .u8 12), .lit (.int .u8 18), .lit (.int .u8 6), .lit (.int .u8 11), .lit (.int .u8 5), .lit (.int .u8 10), .lit (.int .u8 9)]
def laid_math_bits_deBruijn64tab {H : Type} : DataW H := .agg [.lit (.int .u8 0), .lit (.int .u8 1), .lit (.int .u8 56), .lit (.int .u8 2), .lit (.int .u8 57), .lit (.int .u8 49), .lit (.int .u8 28), .lit (.int .u8 3), .lit (.int .u8 61), .lit (.int .u8 58), .lit (.int .u8 42), .lit (.int .u8 50), .lit (.int .u8 38), .lit (.int .u8 29), .lit (.int .u8 17), .lit (.int .u8 4), .lit (.int .u8 62), .lit (.int .u8 47), .lit (.int .u8 59), .lit (.int .u8 36), .lit (.int .u8 45), .lit (.int .u8 43), .lit (.int .u8 51), .lit (.int .u8 22), .lit (.int .u8 53), .lit (.int .u8 39), .lit (.int .u8 33), .lit (.int .u8 30), .lit (.int .u8 24), .lit (.int .u8 18), .lit (.int .u8 12), .lit (.int .u8 5), .lit (.int .u8 63), .lit (.int .u8 55), .lit (.int .u8 48), .lit (.int .u8 27), .lit (.int .u8 60), .lit (.int .u8 41), .lit (.int .u8 37), .lit (.int .u8 16), .lit (.int .u8 46), .lit (.int .u8 35), .lit (.int .u8 44), .lit (.int .u8 21), .lit (.int .u8 52), .lit (.int .u8 32), .lit (.int .u8 23), .lit (.int .u8 11), .lit (.int .u8 54), .lit (.int .u8 26), .lit (.int .u8 40), .lit (.int .u8 15), .lit (.int .u8 34), .lit (.int .u8 20), .lit (.int .u8 31), .lit (.int .u8 10), .lit (.int .u8 25), .lit (.int .u8 14), .lit (.int .u8 19), .lit (.int .u8 9), .lit (.int .u8 13), .lit (.int .u8 8), .lit (.int .u8 7), .lit (.int .u8 6)]
def laid_internal_strconv_uint64pow10 {H : Type} : DataW H := .agg [.lit (.int .u64 1), .lit (.int .u64 10), .lit (.int .u64 100), .lit (.int .u64 1000), .lit (.int .u64 10000), .lit (.int .u64 100000), .lit (.int .u64 1000000), .lit (.int .u64 10000000), .lit (.int .u64 100000000), .lit (.int .u64 1000000000), .lit (.int .u64 10000000000), .lit (.int .u64 100000000000), .lit (.int .u64 1000000000000), .lit (.int .u64 10000000000000), .lit (.int .u64 100000000000000), .lit (.int .u64 1000000000000000), .lit (.int .u64 10000000000000000), .lit (.int .u64 100000000000000000), .lit (.int .u64 1000000000000000000), .lit (.int .u64 10000000000000000000)]

/-- 'endonymlaw2.WeighNarrows': WHATEVER THE INPUT: true; the input reads as it did. -/
def weighNarrowsSpec : ChangeSpec := { name := "weighNarrows", fn := fun _ => fun
  | [d1, d2] => { results := [.lit (.bool true)], args := [d1, d2] }
  | _ => none }
def weighNarrowsRow : OpenClaim := { program := "ytfmjdoofopamkaadoor", sum := "29f3c46542ab4dc0f3fcec097dad2658a40b242dc3639b1fffedf464fb0137d1", func := "endonym/endonymlaw2.WeighNarrows", spec := "weighNarrows", inPlace := ["math.Float64frombits", "math.Float64bits", "math.archLog", "math.archFloor", "math.archTrunc"], recurses := true, named := ["internal/strconv.uint64pow10", "math/bits.deBruijn32tab", "math/bits.deBruijn64tab"], apart := false, laid := [("math/bits.deBruijn32tab", laid_math_bits_deBruijn32tab), ("math/bits.deBruijn64tab", laid_math_bits_deBruijn64tab), ("internal/strconv.uint64pow10", laid_internal_strconv_uint64pow10)] }
def WeighNarrowsSaid : Prop := weighNarrowsRow.holds Tryd.pinned (OpenSpec.ofChange weighNarrowsSpec)

/-- ITS FALSE NEIGHBOUR: 'it returns false'. Refute it at one input. -/
def weighNarrowsWrong : ChangeSpec := { name := "weighNarrows", fn := fun _ => fun
  | [d1, d2] => { results := [.lit (.bool false)], args := [d1, d2] }
  | _ => none }
def WeighNarrowsWrongFalsely : Prop := weighNarrowsRow.holds Tryd.pinned (OpenSpec.ofChange weighNarrowsWrong)

/-- 'endonymlaw2.WeighNaN': WHATEVER THE INPUT: true; the input reads as it did. -/
def weighNaNSpec : ChangeSpec := { name := "weighNaN", fn := fun _ => fun
  | [d] => { results := [.lit (.bool true)], args := [d] }
  | _ => none }
def weighNaNRow : OpenClaim := { program := "ytfmjdoofopamkaadoor", sum := "29f3c46542ab4dc0f3fcec097dad2658a40b242dc3639b1fffedf464fb0137d1", func := "endonym/endonymlaw2.WeighNaN", spec := "weighNaN", inPlace := ["math.Float64frombits", "math.Float64bits", "math.archLog", "math.archFloor", "math.archTrunc"], recurses := true, named := ["internal/strconv.uint64pow10", "math/bits.deBruijn32tab", "math/bits.deBruijn64tab"], apart := false, laid := [("math/bits.deBruijn32tab", laid_math_bits_deBruijn32tab), ("math/bits.deBruijn64tab", laid_math_bits_deBruijn64tab), ("internal/strconv.uint64pow10", laid_internal_strconv_uint64pow10)] }
def WeighNaNSaid : Prop := weighNaNRow.holds Tryd.pinned (OpenSpec.ofChange weighNaNSpec)

/-- ITS FALSE NEIGHBOUR: 'it returns false'. Refute it at one input. -/
def weighNaNWrong : ChangeSpec := { name := "weighNaN", fn := fun _ => fun
  | [d] => { results := [.lit (.bool false)], args := [d] }
  | _ => none }
def WeighNaNWrongFalsely : Prop := weighNaNRow.holds Tryd.pinned (OpenSpec.ofChange weighNaNWrong)

/-- 'endonymlaw2.WeighOrders': WHATEVER THE INPUT: true; the input reads as it did. -/
def weighOrdersSpec : ChangeSpec := { name := "weighOrders", fn := fun _ => fun
  | [d1, d2] => { results := [.lit (.bool true)], args := [d1, d2] }
  | _ => none }
def weighOrdersRow : OpenClaim := { program := "ytfmjdoofopamkaadoor", sum := "29f3c46542ab4dc0f3fcec097dad2658a40b242dc3639b1fffedf464fb0137d1", func := "endonym/endonymlaw2.WeighOrders", spec := "weighOrders", inPlace := ["math.Float64frombits", "math.Float64bits", "math.archLog", "math.archFloor", "math.archTrunc"], recurses := true, named := ["internal/strconv.uint64pow10", "math/bits.deBruijn32tab", "math/bits.deBruijn64tab"], apart := false, laid := [("math/bits.deBruijn32tab", laid_math_bits_deBruijn32tab), ("math/bits.deBruijn64tab", laid_math_bits_deBruijn64tab), ("internal/strconv.uint64pow10", laid_internal_strconv_uint64pow10)] }
def WeighOrdersSaid : Prop := weighOrdersRow.holds Tryd.pinned (OpenSpec.ofChange weighOrdersSpec)

/-- ITS FALSE NEIGHBOUR: 'it returns false'. Refute it at one input. -/
def weighOrdersWrong : ChangeSpec := { name := "weighOrders", fn := fun _ => fun
  | [d1, d2] => { results := [.lit (.bool false)], args := [d1, d2] }
  | _ => none }
def WeighOrdersWrongFalsely : Prop := weighOrdersRow.holds Tryd.pinned (OpenSpec.ofChange weighOrdersWrong)

/-- 'endonymlaw2.WeighBack': WHATEVER THE INPUT: true; the input reads as it did. -/
def weighBackSpec : ChangeSpec := { name := "weighBack", fn := fun _ => fun
  | [d] => { results := [.lit (.bool true)], args := [d] }
  | _ => none }
def weighBackRow : OpenClaim := { program := "ytfmjdoofopamkaadoor", sum := "29f3c46542ab4dc0f3fcec097dad2658a40b242dc3639b1fffedf464fb0137d1", func := "endonym/endonymlaw2.WeighBack", spec := "weighBack", inPlace := ["math.Float64frombits", "math.Float64bits", "math.archLog", "math.archFloor", "math.archTrunc"], recurses := true, named := ["internal/strconv.uint64pow10", "math/bits.deBruijn32tab", "math/bits.deBruijn64tab"], apart := false, laid := [("math/bits.deBruijn32tab", laid_math_bits_deBruijn32tab), ("math/bits.deBruijn64tab", laid_math_bits_deBruijn64tab), ("internal/strconv.uint64pow10", laid_internal_strconv_uint64pow10)] }
def WeighBackSaid : Prop := weighBackRow.holds Tryd.pinned (OpenSpec.ofChange weighBackSpec)

/-- ITS FALSE NEIGHBOUR: 'it returns false'. Refute it at one input. -/
def weighBackWrong : ChangeSpec := { name := "weighBack", fn := fun _ => fun
  | [d] => { results := [.lit (.bool false)], args := [d] }
  | _ => none }
def WeighBackWrongFalsely : Prop := weighBackRow.holds Tryd.pinned (OpenSpec.ofChange weighBackWrong)

/-- 'endonymlaw2.WeighFewest': WHATEVER THE INPUT: true; the input reads as it did. -/
def weighFewestSpec : ChangeSpec := { name := "weighFewest", fn := fun _ => fun
  | [d] => { results := [.lit (.bool true)], args := [d] }
  | _ => none }
def weighFewestRow : OpenClaim := { program := "ytfmjdoofopamkaadoor", sum := "29f3c46542ab4dc0f3fcec097dad2658a40b242dc3639b1fffedf464fb0137d1", func := "endonym/endonymlaw2.WeighFewest", spec := "weighFewest", inPlace := ["math.Float64frombits", "math.Float64bits", "math.archLog", "math.archFloor", "math.archTrunc"], recurses := true, named := ["internal/strconv.uint64pow10", "math/bits.deBruijn32tab", "math/bits.deBruijn64tab"], apart := false, laid := [("math/bits.deBruijn32tab", laid_math_bits_deBruijn32tab), ("math/bits.deBruijn64tab", laid_math_bits_deBruijn64tab), ("internal/strconv.uint64pow10", laid_internal_strconv_uint64pow10)] }
def WeighFewestSaid : Prop := weighFewestRow.holds Tryd.pinned (OpenSpec.ofChange weighFewestSpec)

/-- ITS FALSE NEIGHBOUR: 'it returns false'. Refute it at one input. -/
def weighFewestWrong : ChangeSpec := { name := "weighFewest", fn := fun _ => fun
  | [d] => { results := [.lit (.bool false)], args := [d] }
  | _ => none }
def WeighFewestWrongFalsely : Prop := weighFewestRow.holds Tryd.pinned (OpenSpec.ofChange weighFewestWrong)

/-- 'endonymlaw2.WeighRises': WHATEVER THE INPUT: true; the input reads as it did. -/
def weighRisesSpec : ChangeSpec := { name := "weighRises", fn := fun _ => fun
  | [d1, d2] => { results := [.lit (.bool true)], args := [d1, d2] }
  | _ => none }
def weighRisesRow : OpenClaim := { program := "ytfmjdoofopamkaadoor", sum := "29f3c46542ab4dc0f3fcec097dad2658a40b242dc3639b1fffedf464fb0137d1", func := "endonym/endonymlaw2.WeighRises", spec := "weighRises", inPlace := ["math.Float64frombits", "math.Float64bits", "math.archLog", "math.archFloor", "math.archTrunc"], recurses := true, named := ["internal/strconv.uint64pow10", "math/bits.deBruijn32tab", "math/bits.deBruijn64tab"], apart := false, laid := [("math/bits.deBruijn32tab", laid_math_bits_deBruijn32tab), ("math/bits.deBruijn64tab", laid_math_bits_deBruijn64tab), ("internal/strconv.uint64pow10", laid_internal_strconv_uint64pow10)] }
def WeighRisesSaid : Prop := weighRisesRow.holds Tryd.pinned (OpenSpec.ofChange weighRisesSpec)

/-- ITS FALSE NEIGHBOUR: 'it returns false'. Refute it at one input. -/
def weighRisesWrong : ChangeSpec := { name := "weighRises", fn := fun _ => fun
  | [d1, d2] => { results := [.lit (.bool false)], args := [d1, d2] }
  | _ => none }
def WeighRisesWrongFalsely : Prop := weighRisesRow.holds Tryd.pinned (OpenSpec.ofChange weighRisesWrong)

/-- 'endonymlaw2.WeighTurns': WHATEVER THE INPUT: true; the input reads as it did. -/
def weighTurnsSpec : ChangeSpec := { name := "weighTurns", fn := fun _ => fun
  | [d1, d2] => { results := [.lit (.bool true)], args := [d1, d2] }
  | _ => none }
def weighTurnsRow : OpenClaim := { program := "ytfmjdoofopamkaadoor", sum := "29f3c46542ab4dc0f3fcec097dad2658a40b242dc3639b1fffedf464fb0137d1", func := "endonym/endonymlaw2.WeighTurns", spec := "weighTurns", inPlace := ["math.Float64frombits", "math.Float64bits", "math.archLog", "math.archFloor", "math.archTrunc"], recurses := true, named := ["internal/strconv.uint64pow10", "math/bits.deBruijn32tab", "math/bits.deBruijn64tab"], apart := false, laid := [("math/bits.deBruijn32tab", laid_math_bits_deBruijn32tab), ("math/bits.deBruijn64tab", laid_math_bits_deBruijn64tab), ("internal/strconv.uint64pow10", laid_internal_strconv_uint64pow10)] }
def WeighTurnsSaid : Prop := weighTurnsRow.holds Tryd.pinned (OpenSpec.ofChange weighTurnsSpec)

/-- ITS FALSE NEIGHBOUR: 'it returns false'. Refute it at one input. -/
def weighTurnsWrong : ChangeSpec := { name := "weighTurns", fn := fun _ => fun
  | [d1, d2] => { results := [.lit (.bool false)], args := [d1, d2] }
  | _ => none }
def WeighTurnsWrongFalsely : Prop := weighTurnsRow.holds Tryd.pinned (OpenSpec.ofChange weighTurnsWrong)

/- THE SECOND FORM. 'bulk': how many values and letters a reading holds, each counted each time it is reached (what is shared counts as often as it is met; a slice's spare places count too). A statement '..UptoSaid' is the law's where the arguments, and the package variables that the reading takes, are together of bulk at most 1048576: NARROWER than '..Said'. Prove '..Said' where nothing that the law and all that it calls make is longer than what came in: it says more and counts as full. Else prove '..UptoSaid'. A law counts once. -/
mutual
def uptoBulk {H : Type} : DataW H → Nat
  | .lit (.string bytes) => bytes.length + 1
  | .lit _ => 1
  | .nil => 1
  | .ptr d => uptoBulk d + 1
  | .slice elems spare => uptoBulkAll elems + uptoBulkAll spare + 1
  | .agg parts => uptoBulkAll parts + 1
  | .iface _ d => uptoBulk d + 1
  | .map entries => uptoBulkEntries entries + 1
  | .held _ => 1
def uptoBulkAll {H : Type} : List (DataW H) → Nat
  | [] => 0
  | d :: r => uptoBulk d + uptoBulkAll r
def uptoBulkEntries {H : Type} : List (Lit × DataW H) → Nat
  | [] => 0
  | x :: r => uptoBulkEntry x + uptoBulkEntries r
def uptoBulkEntry {H : Type} : Lit × DataW H → Nat
  | (.string bytes, d) => bytes.length + uptoBulk d + 1
  | (_, d) => uptoBulk d + 1
 end
def uptoSmall : (H : Type) → List (DataW H) → Bool := fun _ ds => decide (uptoBulkAll ds ≤ 1048576)
def OpenSpec.upto (s : _root_.Go.ChangeSpec) : _root_.Go.OpenSpec := { _root_.Go.OpenSpec.ofChange s with cond := some uptoSmall }

/-- 'endonymlaw2.WeighNarrows', WHERE WHAT IT READS IS OF BULK AT MOST 1048576: true; the input reads as it did. -/
def weighNarrowsUptoRow : OpenClaim := { program := "ytfmjdoofopamkaadoor", sum := "29f3c46542ab4dc0f3fcec097dad2658a40b242dc3639b1fffedf464fb0137d1", func := "endonym/endonymlaw2.WeighNarrows", spec := "weighNarrows", inPlace := ["math.Float64frombits", "math.Float64bits", "math.archLog", "math.archFloor", "math.archTrunc"], recurses := true, named := ["internal/strconv.uint64pow10", "math/bits.deBruijn32tab", "math/bits.deBruijn64tab"], apart := false, laid := [("math/bits.deBruijn32tab", laid_math_bits_deBruijn32tab), ("math/bits.deBruijn64tab", laid_math_bits_deBruijn64tab), ("internal/strconv.uint64pow10", laid_internal_strconv_uint64pow10)], narrowed := true }
def WeighNarrowsUptoSaid : Prop := weighNarrowsUptoRow.holds Tryd.pinned (OpenSpec.upto weighNarrowsSpec)

/-- 'endonymlaw2.WeighNaN', WHERE WHAT IT READS IS OF BULK AT MOST 1048576: true; the input reads as it did. -/
def weighNaNUptoRow : OpenClaim := { program := "ytfmjdoofopamkaadoor", sum := "29f3c46542ab4dc0f3fcec097dad2658a40b242dc3639b1fffedf464fb0137d1", func := "endonym/endonymlaw2.WeighNaN", spec := "weighNaN", inPlace := ["math.Float64frombits", "math.Float64bits", "math.archLog", "math.archFloor", "math.archTrunc"], recurses := true, named := ["internal/strconv.uint64pow10", "math/bits.deBruijn32tab", "math/bits.deBruijn64tab"], apart := false, laid := [("math/bits.deBruijn32tab", laid_math_bits_deBruijn32tab), ("math/bits.deBruijn64tab", laid_math_bits_deBruijn64tab), ("internal/strconv.uint64pow10", laid_internal_strconv_uint64pow10)], narrowed := true }
def WeighNaNUptoSaid : Prop := weighNaNUptoRow.holds Tryd.pinned (OpenSpec.upto weighNaNSpec)

/-- 'endonymlaw2.WeighOrders', WHERE WHAT IT READS IS OF BULK AT MOST 1048576: true; the input reads as it did. -/
def weighOrdersUptoRow : OpenClaim := { program := "ytfmjdoofopamkaadoor", sum := "29f3c46542ab4dc0f3fcec097dad2658a40b242dc3639b1fffedf464fb0137d1", func := "endonym/endonymlaw2.WeighOrders", spec := "weighOrders", inPlace := ["math.Float64frombits", "math.Float64bits", "math.archLog", "math.archFloor", "math.archTrunc"], recurses := true, named := ["internal/strconv.uint64pow10", "math/bits.deBruijn32tab", "math/bits.deBruijn64tab"], apart := false, laid := [("math/bits.deBruijn32tab", laid_math_bits_deBruijn32tab), ("math/bits.deBruijn64tab", laid_math_bits_deBruijn64tab), ("internal/strconv.uint64pow10", laid_internal_strconv_uint64pow10)], narrowed := true }
def WeighOrdersUptoSaid : Prop := weighOrdersUptoRow.holds Tryd.pinned (OpenSpec.upto weighOrdersSpec)

/-- 'endonymlaw2.WeighBack', WHERE WHAT IT READS IS OF BULK AT MOST 1048576: true; the input reads as it did. -/
def weighBackUptoRow : OpenClaim := { program := "ytfmjdoofopamkaadoor", sum := "29f3c46542ab4dc0f3fcec097dad2658a40b242dc3639b1fffedf464fb0137d1", func := "endonym/endonymlaw2.WeighBack", spec := "weighBack", inPlace := ["math.Float64frombits", "math.Float64bits", "math.archLog", "math.archFloor", "math.archTrunc"], recurses := true, named := ["internal/strconv.uint64pow10", "math/bits.deBruijn32tab", "math/bits.deBruijn64tab"], apart := false, laid := [("math/bits.deBruijn32tab", laid_math_bits_deBruijn32tab), ("math/bits.deBruijn64tab", laid_math_bits_deBruijn64tab), ("internal/strconv.uint64pow10", laid_internal_strconv_uint64pow10)], narrowed := true }
def WeighBackUptoSaid : Prop := weighBackUptoRow.holds Tryd.pinned (OpenSpec.upto weighBackSpec)

/-- 'endonymlaw2.WeighFewest', WHERE WHAT IT READS IS OF BULK AT MOST 1048576: true; the input reads as it did. -/
def weighFewestUptoRow : OpenClaim := { program := "ytfmjdoofopamkaadoor", sum := "29f3c46542ab4dc0f3fcec097dad2658a40b242dc3639b1fffedf464fb0137d1", func := "endonym/endonymlaw2.WeighFewest", spec := "weighFewest", inPlace := ["math.Float64frombits", "math.Float64bits", "math.archLog", "math.archFloor", "math.archTrunc"], recurses := true, named := ["internal/strconv.uint64pow10", "math/bits.deBruijn32tab", "math/bits.deBruijn64tab"], apart := false, laid := [("math/bits.deBruijn32tab", laid_math_bits_deBruijn32tab), ("math/bits.deBruijn64tab", laid_math_bits_deBruijn64tab), ("internal/strconv.uint64pow10", laid_internal_strconv_uint64pow10)], narrowed := true }
def WeighFewestUptoSaid : Prop := weighFewestUptoRow.holds Tryd.pinned (OpenSpec.upto weighFewestSpec)

/-- 'endonymlaw2.WeighRises', WHERE WHAT IT READS IS OF BULK AT MOST 1048576: true; the input reads as it did. -/
def weighRisesUptoRow : OpenClaim := { program := "ytfmjdoofopamkaadoor", sum := "29f3c46542ab4dc0f3fcec097dad2658a40b242dc3639b1fffedf464fb0137d1", func := "endonym/endonymlaw2.WeighRises", spec := "weighRises", inPlace := ["math.Float64frombits", "math.Float64bits", "math.archLog", "math.archFloor", "math.archTrunc"], recurses := true, named := ["internal/strconv.uint64pow10", "math/bits.deBruijn32tab", "math/bits.deBruijn64tab"], apart := false, laid := [("math/bits.deBruijn32tab", laid_math_bits_deBruijn32tab), ("math/bits.deBruijn64tab", laid_math_bits_deBruijn64tab), ("internal/strconv.uint64pow10", laid_internal_strconv_uint64pow10)], narrowed := true }
def WeighRisesUptoSaid : Prop := weighRisesUptoRow.holds Tryd.pinned (OpenSpec.upto weighRisesSpec)

/-- 'endonymlaw2.WeighTurns', WHERE WHAT IT READS IS OF BULK AT MOST 1048576: true; the input reads as it did. -/
def weighTurnsUptoRow : OpenClaim := { program := "ytfmjdoofopamkaadoor", sum := "29f3c46542ab4dc0f3fcec097dad2658a40b242dc3639b1fffedf464fb0137d1", func := "endonym/endonymlaw2.WeighTurns", spec := "weighTurns", inPlace := ["math.Float64frombits", "math.Float64bits", "math.archLog", "math.archFloor", "math.archTrunc"], recurses := true, named := ["internal/strconv.uint64pow10", "math/bits.deBruijn32tab", "math/bits.deBruijn64tab"], apart := false, laid := [("math/bits.deBruijn32tab", laid_math_bits_deBruijn32tab), ("math/bits.deBruijn64tab", laid_math_bits_deBruijn64tab), ("internal/strconv.uint64pow10", laid_internal_strconv_uint64pow10)], narrowed := true }
def WeighTurnsUptoSaid : Prop := weighTurnsUptoRow.holds Tryd.pinned (OpenSpec.upto weighTurnsSpec)

end Rows
end Go.Proofs.YtfmjdoofopamkaaDoor
