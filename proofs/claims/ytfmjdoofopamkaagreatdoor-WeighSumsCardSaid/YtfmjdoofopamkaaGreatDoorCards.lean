/-
  DERIVED. GIVEN WITH THE SEED: THE CARDS: each row of YtfmjdoofopamkaaGreatDoorRows.lean that lists a variable, with what it lists TIED to the program's text (the seventh form; the later family's looks); each row that meets fmt, with fmt's text TOLD by the authors' own Lean function (tested against real Go, not proved from fmt's source: count such statements apart). THE CARD IS WHAT COUNTS. Prove the row's statement (the work); the ties are given (YtfmjdoofopamkaaGreatDoorTie.lean); close each card by the builder's one call (the guide's Derived/Test/ToyasCard.lean, 'card_holds'). Laid BY PROGRAM, IN A SANDBOX (cutbox-door.mjs). By AI agents, Wed Nov 11 2026. No macro, syntax, notation, axiom, sorry.
-/
import Derived.Test.YtfmjdoofopamkaaGreatDoorRows
import GoSem.ClaimSeven
namespace Go.Proofs.YtfmjdoofopamkaaGreatDoor
namespace Rows

/-- THE TIED CARD OF 'endonymlaw2.WeighParses'. -/
def weighParsesCard : Claim7 := { stood := { row := weighParsesRow, standIns := [], harness := (true, "fcb121b53f0bd5b6da6bfde46ee2ea2d8d4bcf93b66344e53f37edf6bbd9bef0"), looks := false }, kinds := [], alts := [], laidByText := true, laidKinds := [.data, .data, .data], laidTests := true, laidLooks := .later }
def WeighParsesCardSaid : Prop := Claim7.holds Tryz.pinned (.plain (OpenSpec.ofChange weighParsesSpec)) weighParsesCard

/-- THE TIED CARD OF 'endonymlaw2.WeighPrints'. -/
def weighPrintsCard : Claim7 := { stood := { row := weighPrintsRow, standIns := [], harness := (true, "fcb121b53f0bd5b6da6bfde46ee2ea2d8d4bcf93b66344e53f37edf6bbd9bef0"), looks := false }, kinds := [], alts := [], laidByText := true, laidKinds := [.data, .data, .data], laidTests := true, laidLooks := .later }
def WeighPrintsCardSaid : Prop := Claim7.holds Tryz.pinned (.plain (OpenSpec.ofChange weighPrintsSpec)) weighPrintsCard

/-- THE TIED CARD OF 'endonymlaw2.WeighSums'. -/
def weighSumsCard : Claim7 := { stood := { row := weighSumsRow, standIns := [], harness := (true, "fcb121b53f0bd5b6da6bfde46ee2ea2d8d4bcf93b66344e53f37edf6bbd9bef0"), looks := false }, kinds := [], alts := [], laidByText := true, laidKinds := [.data, .data, .data], laidTests := true, laidLooks := .later }
def WeighSumsCardSaid : Prop := Claim7.holds Tryz.pinned (.plain (OpenSpec.ofChange weighSumsSpec)) weighSumsCard

/-- THE TIED CARD OF 'endonymlaw2.WeighMeans'. -/
def weighMeansCard : Claim7 := { stood := { row := weighMeansRow, standIns := [], harness := (true, "fcb121b53f0bd5b6da6bfde46ee2ea2d8d4bcf93b66344e53f37edf6bbd9bef0"), looks := false }, kinds := [], alts := [], laidByText := true, laidKinds := [.data, .data, .data], laidTests := true, laidLooks := .later }
def WeighMeansCardSaid : Prop := Claim7.holds Tryz.pinned (.plain (OpenSpec.ofChange weighMeansSpec)) weighMeansCard

/-- THE SECOND FORM's CARD OF 'endonymlaw2.WeighParses'. -/
def weighParsesUptoCard : Claim7 := { stood := { row := weighParsesUptoRow, standIns := [], harness := (true, "fcb121b53f0bd5b6da6bfde46ee2ea2d8d4bcf93b66344e53f37edf6bbd9bef0"), looks := false }, kinds := [], alts := [], laidByText := true, laidKinds := [.data, .data, .data], laidTests := true, laidLooks := .later }
def WeighParsesUptoCardSaid : Prop := Claim7.holds Tryz.pinned (.plain (OpenSpec.upto weighParsesSpec)) weighParsesUptoCard

/-- THE SECOND FORM's CARD OF 'endonymlaw2.WeighPrints'. -/
def weighPrintsUptoCard : Claim7 := { stood := { row := weighPrintsUptoRow, standIns := [], harness := (true, "fcb121b53f0bd5b6da6bfde46ee2ea2d8d4bcf93b66344e53f37edf6bbd9bef0"), looks := false }, kinds := [], alts := [], laidByText := true, laidKinds := [.data, .data, .data], laidTests := true, laidLooks := .later }
def WeighPrintsUptoCardSaid : Prop := Claim7.holds Tryz.pinned (.plain (OpenSpec.upto weighPrintsSpec)) weighPrintsUptoCard

/-- THE SECOND FORM's CARD OF 'endonymlaw2.WeighSums'. -/
def weighSumsUptoCard : Claim7 := { stood := { row := weighSumsUptoRow, standIns := [], harness := (true, "fcb121b53f0bd5b6da6bfde46ee2ea2d8d4bcf93b66344e53f37edf6bbd9bef0"), looks := false }, kinds := [], alts := [], laidByText := true, laidKinds := [.data, .data, .data], laidTests := true, laidLooks := .later }
def WeighSumsUptoCardSaid : Prop := Claim7.holds Tryz.pinned (.plain (OpenSpec.upto weighSumsSpec)) weighSumsUptoCard

/-- THE SECOND FORM's CARD OF 'endonymlaw2.WeighMeans'. -/
def weighMeansUptoCard : Claim7 := { stood := { row := weighMeansUptoRow, standIns := [], harness := (true, "fcb121b53f0bd5b6da6bfde46ee2ea2d8d4bcf93b66344e53f37edf6bbd9bef0"), looks := false }, kinds := [], alts := [], laidByText := true, laidKinds := [.data, .data, .data], laidTests := true, laidLooks := .later }
def WeighMeansUptoCardSaid : Prop := Claim7.holds Tryz.pinned (.plain (OpenSpec.upto weighMeansSpec)) weighMeansUptoCard
end Rows
end Go.Proofs.YtfmjdoofopamkaaGreatDoor
