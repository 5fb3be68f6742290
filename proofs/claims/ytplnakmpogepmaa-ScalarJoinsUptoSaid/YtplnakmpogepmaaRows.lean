/-
  No cell of these rows narrows 'for every input' (looked for: loops, veiled, ifaces, maps, wideKeys, modest, calm, conditions, laid).
  DERIVED. THE GIVEN ROWS OF THIS SEAT. 8 by the template 'for every input the law returns true; each argument reads behind the call as it read before'; 0 by the template 'total and deterministic' (their statements: YtplnakmpogepmaaTotals.lean).
  GIVEN WITH THE SEED: the statements are not yours to turn. If you find one false, say at which input.
  Laid BY PROGRAM, IN A SANDBOX (cutbox-rows.mjs): the forced cells as the released guide's own fill.sh prints them over the translation 8405d65df29cf9fa… (all of the seat's roots in one cut). By AI agents, Wed Nov 11 2026. No macro, syntax, notation, axiom, sorry.
-/
import Derived.Test.YtplnakmpogepmaaChecked
import GoSem.Claim
import GoSem.ClaimJoined
import GoSem.ClaimMapViews
import Derived.JoinedTies
import Derived.KernelRfl
namespace Go.Proofs.Ytplnakmpogepmaa
/- THE CELL 'sum', in the pinned program and in every row, IS THE sha256 OF THE DUMP (.gsa) THAT YtplnakmpogepmaaProg.lean LOADS. Nothing in Lean hashes anything: it is a label: what it is worth is what the hold of that sum in a sandbox is worth. -/
noncomputable def Try.pinned : Pinned := { name := "ytplnakmpogepmaa", sum := "8405d65df29cf9faa3e0e9fdae9e995fcb8eea5711b216c55485595d67f2324c", checked := Try.checked }
namespace Rows
def none {H : Type} : Left H := { results := [], args := [] }

/-- 'endonymlaw3.ScalarDecodes': WHATEVER THE INPUT: true; the input reads as it did. -/
def scalarDecodesSpec : ChangeSpec := { name := "scalarDecodes", fn := fun _ => fun
  | [d] => { results := [.lit (.bool true)], args := [d] }
  | _ => none }
def scalarDecodesRow : OpenClaim := { program := "ytplnakmpogepmaa", sum := "8405d65df29cf9faa3e0e9fdae9e995fcb8eea5711b216c55485595d67f2324c", func := "endonym/endonymlaw3.ScalarDecodes", spec := "scalarDecodes", apart := false }
def ScalarDecodesSaid : Prop := scalarDecodesRow.holds Try.pinned (OpenSpec.ofChange scalarDecodesSpec)

/-- ITS FALSE NEIGHBOUR: 'it returns false'. Refute it at one input. -/
def scalarDecodesWrong : ChangeSpec := { name := "scalarDecodes", fn := fun _ => fun
  | [d] => { results := [.lit (.bool false)], args := [d] }
  | _ => none }
def ScalarDecodesWrongFalsely : Prop := scalarDecodesRow.holds Try.pinned (OpenSpec.ofChange scalarDecodesWrong)

/-- 'endonymlaw3.ScalarSplits': WHATEVER THE INPUT: true; the input reads as it did. -/
def scalarSplitsSpec : ChangeSpec := { name := "scalarSplits", fn := fun _ => fun
  | [d] => { results := [.lit (.bool true)], args := [d] }
  | _ => none }
def scalarSplitsRow : OpenClaim := { program := "ytplnakmpogepmaa", sum := "8405d65df29cf9faa3e0e9fdae9e995fcb8eea5711b216c55485595d67f2324c", func := "endonym/endonymlaw3.ScalarSplits", spec := "scalarSplits", apart := false }
def ScalarSplitsSaid : Prop := scalarSplitsRow.holds Try.pinned (OpenSpec.ofChange scalarSplitsSpec)

/-- ITS FALSE NEIGHBOUR: 'it returns false'. Refute it at one input. -/
def scalarSplitsWrong : ChangeSpec := { name := "scalarSplits", fn := fun _ => fun
  | [d] => { results := [.lit (.bool false)], args := [d] }
  | _ => none }
def ScalarSplitsWrongFalsely : Prop := scalarSplitsRow.holds Try.pinned (OpenSpec.ofChange scalarSplitsWrong)

/-- 'endonymlaw3.ScalarBack': WHATEVER THE INPUT: true; the input reads as it did. -/
def scalarBackSpec : ChangeSpec := { name := "scalarBack", fn := fun _ => fun
  | [d1, d2] => { results := [.lit (.bool true)], args := [d1, d2] }
  | _ => none }
def scalarBackRow : OpenClaim := { program := "ytplnakmpogepmaa", sum := "8405d65df29cf9faa3e0e9fdae9e995fcb8eea5711b216c55485595d67f2324c", func := "endonym/endonymlaw3.ScalarBack", spec := "scalarBack", apart := false }
def ScalarBackSaid : Prop := scalarBackRow.holds Try.pinned (OpenSpec.ofChange scalarBackSpec)

/-- ITS FALSE NEIGHBOUR: 'it returns false'. Refute it at one input. -/
def scalarBackWrong : ChangeSpec := { name := "scalarBack", fn := fun _ => fun
  | [d1, d2] => { results := [.lit (.bool false)], args := [d1, d2] }
  | _ => none }
def ScalarBackWrongFalsely : Prop := scalarBackRow.holds Try.pinned (OpenSpec.ofChange scalarBackWrong)

/-- 'endonymlaw3.ScalarFirst': WHATEVER THE INPUT: true; the input reads as it did. -/
def scalarFirstSpec : ChangeSpec := { name := "scalarFirst", fn := fun _ => fun
  | [d] => { results := [.lit (.bool true)], args := [d] }
  | _ => none }
def scalarFirstRow : OpenClaim := { program := "ytplnakmpogepmaa", sum := "8405d65df29cf9faa3e0e9fdae9e995fcb8eea5711b216c55485595d67f2324c", func := "endonym/endonymlaw3.ScalarFirst", spec := "scalarFirst", apart := false }
def ScalarFirstSaid : Prop := scalarFirstRow.holds Try.pinned (OpenSpec.ofChange scalarFirstSpec)

/-- ITS FALSE NEIGHBOUR: 'it returns false'. Refute it at one input. -/
def scalarFirstWrong : ChangeSpec := { name := "scalarFirst", fn := fun _ => fun
  | [d] => { results := [.lit (.bool false)], args := [d] }
  | _ => none }
def ScalarFirstWrongFalsely : Prop := scalarFirstRow.holds Try.pinned (OpenSpec.ofChange scalarFirstWrong)

/-- 'endonymlaw3.ScalarBad': WHATEVER THE INPUT: true; the input reads as it did. -/
def scalarBadSpec : ChangeSpec := { name := "scalarBad", fn := fun _ => fun
  | [d1, d2] => { results := [.lit (.bool true)], args := [d1, d2] }
  | _ => none }
def scalarBadRow : OpenClaim := { program := "ytplnakmpogepmaa", sum := "8405d65df29cf9faa3e0e9fdae9e995fcb8eea5711b216c55485595d67f2324c", func := "endonym/endonymlaw3.ScalarBad", spec := "scalarBad", apart := false }
def ScalarBadSaid : Prop := scalarBadRow.holds Try.pinned (OpenSpec.ofChange scalarBadSpec)

/-- ITS FALSE NEIGHBOUR: 'it returns false'. Refute it at one input. -/
def scalarBadWrong : ChangeSpec := { name := "scalarBad", fn := fun _ => fun
  | [d1, d2] => { results := [.lit (.bool false)], args := [d1, d2] }
  | _ => none }
def ScalarBadWrongFalsely : Prop := scalarBadRow.holds Try.pinned (OpenSpec.ofChange scalarBadWrong)

/-- 'endonymlaw3.ScalarJoins': WHATEVER THE INPUT: true; the input reads as it did. -/
def scalarJoinsSpec : ChangeSpec := { name := "scalarJoins", fn := fun _ => fun
  | [d] => { results := [.lit (.bool true)], args := [d] }
  | _ => none }
def scalarJoinsRow : OpenClaim := { program := "ytplnakmpogepmaa", sum := "8405d65df29cf9faa3e0e9fdae9e995fcb8eea5711b216c55485595d67f2324c", func := "endonym/endonymlaw3.ScalarJoins", spec := "scalarJoins", apart := false }
def ScalarJoinsSaid : Prop := scalarJoinsRow.holds Try.pinned (OpenSpec.ofChange scalarJoinsSpec)

/-- ITS FALSE NEIGHBOUR: 'it returns false'. Refute it at one input. -/
def scalarJoinsWrong : ChangeSpec := { name := "scalarJoins", fn := fun _ => fun
  | [d] => { results := [.lit (.bool false)], args := [d] }
  | _ => none }
def ScalarJoinsWrongFalsely : Prop := scalarJoinsRow.holds Try.pinned (OpenSpec.ofChange scalarJoinsWrong)

/-- 'endonymlaw3.ScalarCuts': WHATEVER THE INPUT: true; the input reads as it did. -/
def scalarCutsSpec : ChangeSpec := { name := "scalarCuts", fn := fun _ => fun
  | [d1, d2, d3, d4] => { results := [.lit (.bool true)], args := [d1, d2, d3, d4] }
  | _ => none }
def scalarCutsRow : OpenClaim := { program := "ytplnakmpogepmaa", sum := "8405d65df29cf9faa3e0e9fdae9e995fcb8eea5711b216c55485595d67f2324c", func := "endonym/endonymlaw3.ScalarCuts", spec := "scalarCuts", apart := false }
def ScalarCutsSaid : Prop := scalarCutsRow.holds Try.pinned (OpenSpec.ofChange scalarCutsSpec)

/-- ITS FALSE NEIGHBOUR: 'it returns false'. Refute it at one input. -/
def scalarCutsWrong : ChangeSpec := { name := "scalarCuts", fn := fun _ => fun
  | [d1, d2, d3, d4] => { results := [.lit (.bool false)], args := [d1, d2, d3, d4] }
  | _ => none }
def ScalarCutsWrongFalsely : Prop := scalarCutsRow.holds Try.pinned (OpenSpec.ofChange scalarCutsWrong)

/-- 'endonymlaw3.ScalarEncodes': WHATEVER THE INPUT: true; the input reads as it did. -/
def scalarEncodesSpec : ChangeSpec := { name := "scalarEncodes", fn := fun _ => fun
  | [d1, d2] => { results := [.lit (.bool true)], args := [d1, d2] }
  | _ => none }
def scalarEncodesRow : OpenClaim := { program := "ytplnakmpogepmaa", sum := "8405d65df29cf9faa3e0e9fdae9e995fcb8eea5711b216c55485595d67f2324c", func := "endonym/endonymlaw3.ScalarEncodes", spec := "scalarEncodes", apart := false }
def ScalarEncodesSaid : Prop := scalarEncodesRow.holds Try.pinned (OpenSpec.ofChange scalarEncodesSpec)

/-- ITS FALSE NEIGHBOUR: 'it returns false'. Refute it at one input. -/
def scalarEncodesWrong : ChangeSpec := { name := "scalarEncodes", fn := fun _ => fun
  | [d1, d2] => { results := [.lit (.bool false)], args := [d1, d2] }
  | _ => none }
def ScalarEncodesWrongFalsely : Prop := scalarEncodesRow.holds Try.pinned (OpenSpec.ofChange scalarEncodesWrong)

/- THE SECOND FORM. 'bulk': how many values and letters a reading holds, each counted each time it is reached (what is shared counts as often as it is met; a slice's spare places count too). A statement '..UptoSaid' is the law's where the arguments, and the package variables that the reading takes, are together of bulk at most 1048576: NARROWER than '..Said'. Prove '..Said' where nothing that the law and all that it calls make is longer than what came in: it says more and counts as full. Else prove '..UptoSaid'. A law counts once. -/
mutual
def uptoBulk {H : Type} : DataW H → Nat
  | .lit (.string bytes) => bytes.length + 1
  | .lit _ => 1
  | .nil => 1
  | .ptr d => uptoBulk d + 1
  | .slice elems spare => uptoBulkAll elems + uptoBulkAll spare + 1
  | .agg parts => uptoBulkAll parts + 1
  | .iface _ d => uptoBulk d + 1
  | .map entries => uptoBulkEntries entries + 1
  | .held _ => 1
def uptoBulkAll {H : Type} : List (DataW H) → Nat
  | [] => 0
  | d :: r => uptoBulk d + uptoBulkAll r
def uptoBulkEntries {H : Type} : List (Lit × DataW H) → Nat
  | [] => 0
  | x :: r => uptoBulkEntry x + uptoBulkEntries r
def uptoBulkEntry {H : Type} : Lit × DataW H → Nat
  | (.string bytes, d) => bytes.length + uptoBulk d + 1
  | (_, d) => uptoBulk d + 1
 end
def uptoSmall : (H : Type) → List (DataW H) → Bool := fun _ ds => decide (uptoBulkAll ds ≤ 1048576)
def OpenSpec.upto (s : _root_.Go.ChangeSpec) : _root_.Go.OpenSpec := { _root_.Go.OpenSpec.ofChange s with cond := some uptoSmall }

/-- 'endonymlaw3.ScalarDecodes', WHERE WHAT IT READS IS OF BULK AT MOST 1048576: true; the input reads as it did. -/
def scalarDecodesUptoRow : OpenClaim := { program := "ytplnakmpogepmaa", sum := "8405d65df29cf9faa3e0e9fdae9e995fcb8eea5711b216c55485595d67f2324c", func := "endonym/endonymlaw3.ScalarDecodes", spec := "scalarDecodes", apart := false, narrowed := true }
def ScalarDecodesUptoSaid : Prop := scalarDecodesUptoRow.holds Try.pinned (OpenSpec.upto scalarDecodesSpec)

/-- 'endonymlaw3.ScalarSplits', WHERE WHAT IT READS IS OF BULK AT MOST 1048576: true; the input reads as it did. -/
def scalarSplitsUptoRow : OpenClaim := { program := "ytplnakmpogepmaa", sum := "8405d65df29cf9faa3e0e9fdae9e995fcb8eea5711b216c55485595d67f2324c", func := "endonym/endonymlaw3.ScalarSplits", spec := "scalarSplits", apart := false, narrowed := true }
def ScalarSplitsUptoSaid : Prop := scalarSplitsUptoRow.holds Try.pinned (OpenSpec.upto scalarSplitsSpec)

/-- 'endonymlaw3.ScalarBack', WHERE WHAT IT READS IS OF BULK AT MOST 1048576: true; the input reads as it did. -/
def scalarBackUptoRow : OpenClaim := { program := "ytplnakmpogepmaa", sum := "8405d65df29cf9faa3e0e9fdae9e995fcb8eea5711b216c55485595d67f2324c", func := "endonym/endonymlaw3.ScalarBack", spec := "scalarBack", apart := false, narrowed := true }
def ScalarBackUptoSaid : Prop := scalarBackUptoRow.holds Try.pinned (OpenSpec.upto scalarBackSpec)

/-- 'endonymlaw3.ScalarFirst', WHERE WHAT IT READS IS OF BULK AT MOST 1048576: true; the input reads as it did. -/
def scalarFirstUptoRow : OpenClaim := { program := "ytplnakmpogepmaa", sum := "8405d65df29cf9faa3e0e9fdae9e995fcb8eea5711b216c55485595d67f2324c", func := "endonym/endonymlaw3.ScalarFirst", spec := "scalarFirst", apart := false, narrowed := true }
def ScalarFirstUptoSaid : Prop := scalarFirstUptoRow.holds Try.pinned (OpenSpec.upto scalarFirstSpec)

/-- 'endonymlaw3.ScalarBad', WHERE WHAT IT READS IS OF BULK AT MOST 1048576: true; the input reads as it did. -/
def scalarBadUptoRow : OpenClaim := { program := "ytplnakmpogepmaa", sum := "8405d65df29cf9faa3e0e9fdae9e995fcb8eea5711b216c55485595d67f2324c", func := "endonym/endonymlaw3.ScalarBad", spec := "scalarBad", apart := false, narrowed := true }
def ScalarBadUptoSaid : Prop := scalarBadUptoRow.holds Try.pinned (OpenSpec.upto scalarBadSpec)

/-- 'endonymlaw3.ScalarJoins', WHERE WHAT IT READS IS OF BULK AT MOST 1048576: true; the input reads as it did. -/
def scalarJoinsUptoRow : OpenClaim := { program := "ytplnakmpogepmaa", sum := "8405d65df29cf9faa3e0e9fdae9e995fcb8eea5711b216c55485595d67f2324c", func := "endonym/endonymlaw3.ScalarJoins", spec := "scalarJoins", apart := false, narrowed := true }
def ScalarJoinsUptoSaid : Prop := scalarJoinsUptoRow.holds Try.pinned (OpenSpec.upto scalarJoinsSpec)

/-- 'endonymlaw3.ScalarCuts', WHERE WHAT IT READS IS OF BULK AT MOST 1048576: true; the input reads as it did. -/
def scalarCutsUptoRow : OpenClaim := { program := "ytplnakmpogepmaa", sum := "8405d65df29cf9faa3e0e9fdae9e995fcb8eea5711b216c55485595d67f2324c", func := "endonym/endonymlaw3.ScalarCuts", spec := "scalarCuts", apart := false, narrowed := true }
def ScalarCutsUptoSaid : Prop := scalarCutsUptoRow.holds Try.pinned (OpenSpec.upto scalarCutsSpec)

/-- 'endonymlaw3.ScalarEncodes', WHERE WHAT IT READS IS OF BULK AT MOST 1048576: true; the input reads as it did. -/
def scalarEncodesUptoRow : OpenClaim := { program := "ytplnakmpogepmaa", sum := "8405d65df29cf9faa3e0e9fdae9e995fcb8eea5711b216c55485595d67f2324c", func := "endonym/endonymlaw3.ScalarEncodes", spec := "scalarEncodes", apart := false, narrowed := true }
def ScalarEncodesUptoSaid : Prop := scalarEncodesUptoRow.holds Try.pinned (OpenSpec.upto scalarEncodesSpec)

end Rows
end Go.Proofs.Ytplnakmpogepmaa
