/-
  DERIVED. GIVEN WITH THE SEED: THE CARDS: each row of YtfmjdoofopamkaaDoorRows.lean that lists a variable, with what it lists TIED to the program's text (the seventh form; the later family's looks); each row that meets fmt, with fmt's text TOLD by the authors' own Lean function (tested against real Go, not proved from fmt's source: count such statements apart). THE CARD IS WHAT COUNTS. Prove the row's statement (the work); the ties are given (YtfmjdoofopamkaaDoorTie.lean); close each card by the builder's one call (the guide's Derived/Test/ToyasCard.lean, 'card_holds'). Laid BY PROGRAM, IN A SANDBOX (cutbox-door.mjs). By AI agents, Wed Nov 11 2026. No macro, syntax, notation, axiom, sorry.
-/
import Derived.Test.YtfmjdoofopamkaaDoorRows
import GoSem.ClaimSeven
namespace Go.Proofs.YtfmjdoofopamkaaDoor
namespace Rows

/-- THE TIED CARD OF 'endonymlaw2.WeighNarrows'. -/
def weighNarrowsCard : Claim7 := { stood := { row := weighNarrowsRow, standIns := [], harness := (true, "111c202e7e4fc96f66649e40eb158a46f4db7c536a525e6d2c77141df129b17b"), looks := false }, kinds := [], alts := [], laidByText := true, laidKinds := [.data, .data, .data], laidTests := true, laidLooks := .later }
def WeighNarrowsCardSaid : Prop := Claim7.holds Tryd.pinned (.plain (OpenSpec.ofChange weighNarrowsSpec)) weighNarrowsCard

/-- THE TIED CARD OF 'endonymlaw2.WeighNaN'. -/
def weighNaNCard : Claim7 := { stood := { row := weighNaNRow, standIns := [], harness := (true, "111c202e7e4fc96f66649e40eb158a46f4db7c536a525e6d2c77141df129b17b"), looks := false }, kinds := [], alts := [], laidByText := true, laidKinds := [.data, .data, .data], laidTests := true, laidLooks := .later }
def WeighNaNCardSaid : Prop := Claim7.holds Tryd.pinned (.plain (OpenSpec.ofChange weighNaNSpec)) weighNaNCard

/-- THE TIED CARD OF 'endonymlaw2.WeighOrders'. -/
def weighOrdersCard : Claim7 := { stood := { row := weighOrdersRow, standIns := [], harness := (true, "111c202e7e4fc96f66649e40eb158a46f4db7c536a525e6d2c77141df129b17b"), looks := false }, kinds := [], alts := [], laidByText := true, laidKinds := [.data, .data, .data], laidTests := true, laidLooks := .later }
def WeighOrdersCardSaid : Prop := Claim7.holds Tryd.pinned (.plain (OpenSpec.ofChange weighOrdersSpec)) weighOrdersCard

/-- THE TIED CARD OF 'endonymlaw2.WeighBack'. -/
def weighBackCard : Claim7 := { stood := { row := weighBackRow, standIns := [], harness := (true, "111c202e7e4fc96f66649e40eb158a46f4db7c536a525e6d2c77141df129b17b"), looks := false }, kinds := [], alts := [], laidByText := true, laidKinds := [.data, .data, .data], laidTests := true, laidLooks := .later }
def WeighBackCardSaid : Prop := Claim7.holds Tryd.pinned (.plain (OpenSpec.ofChange weighBackSpec)) weighBackCard

/-- THE TIED CARD OF 'endonymlaw2.WeighFewest'. -/
def weighFewestCard : Claim7 := { stood := { row := weighFewestRow, standIns := [], harness := (true, "111c202e7e4fc96f66649e40eb158a46f4db7c536a525e6d2c77141df129b17b"), looks := false }, kinds := [], alts := [], laidByText := true, laidKinds := [.data, .data, .data], laidTests := true, laidLooks := .later }
def WeighFewestCardSaid : Prop := Claim7.holds Tryd.pinned (.plain (OpenSpec.ofChange weighFewestSpec)) weighFewestCard

/-- THE TIED CARD OF 'endonymlaw2.WeighRises'. -/
def weighRisesCard : Claim7 := { stood := { row := weighRisesRow, standIns := [], harness := (true, "111c202e7e4fc96f66649e40eb158a46f4db7c536a525e6d2c77141df129b17b"), looks := false }, kinds := [], alts := [], laidByText := true, laidKinds := [.data, .data, .data], laidTests := true, laidLooks := .later }
def WeighRisesCardSaid : Prop := Claim7.holds Tryd.pinned (.plain (OpenSpec.ofChange weighRisesSpec)) weighRisesCard

/-- THE TIED CARD OF 'endonymlaw2.WeighTurns'. -/
def weighTurnsCard : Claim7 := { stood := { row := weighTurnsRow, standIns := [], harness := (true, "111c202e7e4fc96f66649e40eb158a46f4db7c536a525e6d2c77141df129b17b"), looks := false }, kinds := [], alts := [], laidByText := true, laidKinds := [.data, .data, .data], laidTests := true, laidLooks := .later }
def WeighTurnsCardSaid : Prop := Claim7.holds Tryd.pinned (.plain (OpenSpec.ofChange weighTurnsSpec)) weighTurnsCard

/-- THE SECOND FORM's CARD OF 'endonymlaw2.WeighNarrows'. -/
def weighNarrowsUptoCard : Claim7 := { stood := { row := weighNarrowsUptoRow, standIns := [], harness := (true, "111c202e7e4fc96f66649e40eb158a46f4db7c536a525e6d2c77141df129b17b"), looks := false }, kinds := [], alts := [], laidByText := true, laidKinds := [.data, .data, .data], laidTests := true, laidLooks := .later }
def WeighNarrowsUptoCardSaid : Prop := Claim7.holds Tryd.pinned (.plain (OpenSpec.upto weighNarrowsSpec)) weighNarrowsUptoCard

/-- THE SECOND FORM's CARD OF 'endonymlaw2.WeighNaN'. -/
def weighNaNUptoCard : Claim7 := { stood := { row := weighNaNUptoRow, standIns := [], harness := (true, "111c202e7e4fc96f66649e40eb158a46f4db7c536a525e6d2c77141df129b17b"), looks := false }, kinds := [], alts := [], laidByText := true, laidKinds := [.data, .data, .data], laidTests := true, laidLooks := .later }
def WeighNaNUptoCardSaid : Prop := Claim7.holds Tryd.pinned (.plain (OpenSpec.upto weighNaNSpec)) weighNaNUptoCard

/-- THE SECOND FORM's CARD OF 'endonymlaw2.WeighOrders'. -/
def weighOrdersUptoCard : Claim7 := { stood := { row := weighOrdersUptoRow, standIns := [], harness := (true, "111c202e7e4fc96f66649e40eb158a46f4db7c536a525e6d2c77141df129b17b"), looks := false }, kinds := [], alts := [], laidByText := true, laidKinds := [.data, .data, .data], laidTests := true, laidLooks := .later }
def WeighOrdersUptoCardSaid : Prop := Claim7.holds Tryd.pinned (.plain (OpenSpec.upto weighOrdersSpec)) weighOrdersUptoCard

/-- THE SECOND FORM's CARD OF 'endonymlaw2.WeighBack'. -/
def weighBackUptoCard : Claim7 := { stood := { row := weighBackUptoRow, standIns := [], harness := (true, "111c202e7e4fc96f66649e40eb158a46f4db7c536a525e6d2c77141df129b17b"), looks := false }, kinds := [], alts := [], laidByText := true, laidKinds := [.data, .data, .data], laidTests := true, laidLooks := .later }
def WeighBackUptoCardSaid : Prop := Claim7.holds Tryd.pinned (.plain (OpenSpec.upto weighBackSpec)) weighBackUptoCard

/-- THE SECOND FORM's CARD OF 'endonymlaw2.WeighFewest'. -/
def weighFewestUptoCard : Claim7 := { stood := { row := weighFewestUptoRow, standIns := [], harness := (true, "111c202e7e4fc96f66649e40eb158a46f4db7c536a525e6d2c77141df129b17b"), looks := false }, kinds := [], alts := [], laidByText := true, laidKinds := [.data, .data, .data], laidTests := true, laidLooks := .later }
def WeighFewestUptoCardSaid : Prop := Claim7.holds Tryd.pinned (.plain (OpenSpec.upto weighFewestSpec)) weighFewestUptoCard

/-- THE SECOND FORM's CARD OF 'endonymlaw2.WeighRises'. -/
def weighRisesUptoCard : Claim7 := { stood := { row := weighRisesUptoRow, standIns := [], harness := (true, "111c202e7e4fc96f66649e40eb158a46f4db7c536a525e6d2c77141df129b17b"), looks := false }, kinds := [], alts := [], laidByText := true, laidKinds := [.data, .data, .data], laidTests := true, laidLooks := .later }
def WeighRisesUptoCardSaid : Prop := Claim7.holds Tryd.pinned (.plain (OpenSpec.upto weighRisesSpec)) weighRisesUptoCard

/-- THE SECOND FORM's CARD OF 'endonymlaw2.WeighTurns'. -/
def weighTurnsUptoCard : Claim7 := { stood := { row := weighTurnsUptoRow, standIns := [], harness := (true, "111c202e7e4fc96f66649e40eb158a46f4db7c536a525e6d2c77141df129b17b"), looks := false }, kinds := [], alts := [], laidByText := true, laidKinds := [.data, .data, .data], laidTests := true, laidLooks := .later }
def WeighTurnsUptoCardSaid : Prop := Claim7.holds Tryd.pinned (.plain (OpenSpec.upto weighTurnsSpec)) weighTurnsUptoCard
end Rows
end Go.Proofs.YtfmjdoofopamkaaDoor
