/-
  No cell of these rows narrows 'for every input' (looked for: loops, veiled, ifaces, maps, wideKeys, modest, calm, conditions, laid).
  DERIVED. THE GIVEN ROWS OF THIS SEAT. 3 by the template 'for every input the law returns true; each argument reads behind the call as it read before'; 0 by the template 'total and deterministic' (their statements: YtplnakmpogepmabTotals.lean).
  GIVEN WITH THE SEED: the statements are not yours to turn. If you find one false, say at which input.
  Laid BY PROGRAM, IN A SANDBOX (cutbox-rows.mjs): the forced cells as the released guide's own fill.sh prints them over the translation 1ba949093bb13517… (all of the seat's roots in one cut). By AI agents, Wed Nov 11 2026. No macro, syntax, notation, axiom, sorry.
-/
import Derived.Test.YtplnakmpogepmabChecked
import GoSem.Claim
import GoSem.ClaimJoined
import GoSem.ClaimMapViews
import Derived.JoinedTies
import Derived.KernelRfl
namespace Go.Proofs.Ytplnakmpogepmab
/- THE CELL 'sum', in the pinned program and in every row, IS THE sha256 OF THE DUMP (.gsa) THAT YtplnakmpogepmabProg.lean LOADS. Nothing in Lean hashes anything: it is a label: what it is worth is what the hold of that sum in a sandbox is worth. -/
noncomputable def Try.pinned : Pinned := { name := "ytplnakmpogepmab", sum := "1ba949093bb13517f91cdeb3e3c16d094d6958bc6a6ddc19af951b19bfd2aef9", checked := Try.checked }
namespace Rows
def none {H : Type} : Left H := { results := [], args := [] }

/-- 'endonymlaw5.ScanLines': WHATEVER THE INPUT: true; the input reads as it did. -/
def scanLinesSpec : ChangeSpec := { name := "scanLines", fn := fun _ => fun
  | [d] => { results := [.lit (.bool true)], args := [d] }
  | _ => none }
def scanLinesRow : OpenClaim := { program := "ytplnakmpogepmab", sum := "1ba949093bb13517f91cdeb3e3c16d094d6958bc6a6ddc19af951b19bfd2aef9", func := "endonym/endonymlaw5.ScanLines", spec := "scanLines", apart := false }
def ScanLinesSaid : Prop := scanLinesRow.holds Try.pinned (OpenSpec.ofChange scanLinesSpec)

/-- ITS FALSE NEIGHBOUR: 'it returns false'. Refute it at one input. -/
def scanLinesWrong : ChangeSpec := { name := "scanLines", fn := fun _ => fun
  | [d] => { results := [.lit (.bool false)], args := [d] }
  | _ => none }
def ScanLinesWrongFalsely : Prop := scanLinesRow.holds Try.pinned (OpenSpec.ofChange scanLinesWrong)

/-- 'endonymlaw5.ScanReads': WHATEVER THE INPUT: true; the input reads as it did. -/
def scanReadsSpec : ChangeSpec := { name := "scanReads", fn := fun _ => fun
  | [d] => { results := [.lit (.bool true)], args := [d] }
  | _ => none }
def scanReadsRow : OpenClaim := { program := "ytplnakmpogepmab", sum := "1ba949093bb13517f91cdeb3e3c16d094d6958bc6a6ddc19af951b19bfd2aef9", func := "endonym/endonymlaw5.ScanReads", spec := "scanReads", apart := false }
def ScanReadsSaid : Prop := scanReadsRow.holds Try.pinned (OpenSpec.ofChange scanReadsSpec)

/-- ITS FALSE NEIGHBOUR: 'it returns false'. Refute it at one input. -/
def scanReadsWrong : ChangeSpec := { name := "scanReads", fn := fun _ => fun
  | [d] => { results := [.lit (.bool false)], args := [d] }
  | _ => none }
def ScanReadsWrongFalsely : Prop := scanReadsRow.holds Try.pinned (OpenSpec.ofChange scanReadsWrong)

/-- 'endonymlaw5.ScanBlanks': WHATEVER THE INPUT: true; the input reads as it did. -/
def scanBlanksSpec : ChangeSpec := { name := "scanBlanks", fn := fun _ => fun
  | [d1, d2, d3] => { results := [.lit (.bool true)], args := [d1, d2, d3] }
  | _ => none }
def scanBlanksRow : OpenClaim := { program := "ytplnakmpogepmab", sum := "1ba949093bb13517f91cdeb3e3c16d094d6958bc6a6ddc19af951b19bfd2aef9", func := "endonym/endonymlaw5.ScanBlanks", spec := "scanBlanks", apart := false }
def ScanBlanksSaid : Prop := scanBlanksRow.holds Try.pinned (OpenSpec.ofChange scanBlanksSpec)

/-- ITS FALSE NEIGHBOUR: 'it returns false'. Refute it at one input. -/
def scanBlanksWrong : ChangeSpec := { name := "scanBlanks", fn := fun _ => fun
  | [d1, d2, d3] => { results := [.lit (.bool false)], args := [d1, d2, d3] }
  | _ => none }
def ScanBlanksWrongFalsely : Prop := scanBlanksRow.holds Try.pinned (OpenSpec.ofChange scanBlanksWrong)

/- THE SECOND FORM. 'bulk': how many values and letters a reading holds, each counted each time it is reached (what is shared counts as often as it is met; a slice's spare places count too). A statement '..UptoSaid' is the law's where the arguments, and the package variables that the reading takes, are together of bulk at most 1048576: NARROWER than '..Said'. Prove '..Said' where nothing that the law and all that it calls make is longer than what came in: it says more and counts as full. Else prove '..UptoSaid'. A law counts once. -/
mutual
def uptoBulk {H : Type} : DataW H → Nat
  | .lit (.string bytes) => bytes.length + 1
  | .lit _ => 1
  | .nil => 1
  | .ptr d => uptoBulk d + 1
  | .slice elems spare => uptoBulkAll elems + uptoBulkAll spare + 1
  | .agg parts => uptoBulkAll parts + 1
  | .iface _ d => uptoBulk d + 1
  | .map entries => uptoBulkEntries entries + 1
  | .held _ => 1
def uptoBulkAll {H : Type} : List (DataW H) → Nat
  | [] => 0
  | d :: r => uptoBulk d + uptoBulkAll r
def uptoBulkEntries {H : Type} : List (Lit × DataW H) → Nat
  | [] => 0
  | x :: r => uptoBulkEntry x + uptoBulkEntries r
def uptoBulkEntry {H : Type} : Lit × DataW H → Nat
  | (.string bytes, d) => bytes.length + uptoBulk d + 1
  | (_, d) => uptoBulk d + 1
 end
def uptoSmall : (H : Type) → List (DataW H) → Bool := fun _ ds => decide (uptoBulkAll ds ≤ 1048576)
def OpenSpec.upto (s : _root_.Go.ChangeSpec) : _root_.Go.OpenSpec := { _root_.Go.OpenSpec.ofChange s with cond := some uptoSmall }

/-- 'endonymlaw5.ScanLines', WHERE WHAT IT READS IS OF BULK AT MOST 1048576: true; the input reads as it did. -/
def scanLinesUptoRow : OpenClaim := { program := "ytplnakmpogepmab", sum := "1ba949093bb13517f91cdeb3e3c16d094d6958bc6a6ddc19af951b19bfd2aef9", func := "endonym/endonymlaw5.ScanLines", spec := "scanLines", apart := false, narrowed := true }
def ScanLinesUptoSaid : Prop := scanLinesUptoRow.holds Try.pinned (OpenSpec.upto scanLinesSpec)

/-- 'endonymlaw5.ScanReads', WHERE WHAT IT READS IS OF BULK AT MOST 1048576: true; the input reads as it did. -/
def scanReadsUptoRow : OpenClaim := { program := "ytplnakmpogepmab", sum := "1ba949093bb13517f91cdeb3e3c16d094d6958bc6a6ddc19af951b19bfd2aef9", func := "endonym/endonymlaw5.ScanReads", spec := "scanReads", apart := false, narrowed := true }
def ScanReadsUptoSaid : Prop := scanReadsUptoRow.holds Try.pinned (OpenSpec.upto scanReadsSpec)

/-- 'endonymlaw5.ScanBlanks', WHERE WHAT IT READS IS OF BULK AT MOST 1048576: true; the input reads as it did. -/
def scanBlanksUptoRow : OpenClaim := { program := "ytplnakmpogepmab", sum := "1ba949093bb13517f91cdeb3e3c16d094d6958bc6a6ddc19af951b19bfd2aef9", func := "endonym/endonymlaw5.ScanBlanks", spec := "scanBlanks", apart := false, narrowed := true }
def ScanBlanksUptoSaid : Prop := scanBlanksUptoRow.holds Try.pinned (OpenSpec.upto scanBlanksSpec)

end Rows
end Go.Proofs.Ytplnakmpogepmab
