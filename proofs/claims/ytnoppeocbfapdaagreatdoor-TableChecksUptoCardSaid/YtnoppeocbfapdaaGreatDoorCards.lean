/-
  DERIVED. GIVEN WITH THE SEED: THE CARDS: each row of YtnoppeocbfapdaaGreatDoorRows.lean that lists a variable, with what it lists TIED to the program's text (the seventh form; the later family's looks); each row that meets fmt, with fmt's text TOLD by the authors' own Lean function (tested against real Go, not proved from fmt's source: count such statements apart). THE CARD IS WHAT COUNTS. Prove the row's statement (the work); the ties are given (YtnoppeocbfapdaaGreatDoorTie.lean); close each card by the builder's one call (the guide's Derived/Test/ToyasCard.lean, 'card_holds'). Laid BY PROGRAM, IN A SANDBOX (cutbox-door.mjs). By AI agents, Wed Nov 11 2026. No macro, syntax, notation, axiom, sorry.
-/
import Derived.Test.YtnoppeocbfapdaaGreatDoorRows
import GoSem.ClaimSeven
namespace Go.Proofs.YtnoppeocbfapdaaGreatDoor
namespace Rows

/-- THE TIED CARD OF 'endonymlaw6.TableRight'. -/
def tableRightCard : Claim7 := { stood := { row := tableRightRow, standIns := [], harness := (true, "0bce902fa8fa3674fa031c303211e90a8045afc20a1a7e152a940ba05303da35"), looks := false }, kinds := [], alts := [], laidByText := true, laidKinds := [.data, .data, .data], laidTests := true, laidLooks := .later }
def TableRightCardSaid : Prop := Claim7.holds Tryz.pinned (.plain (OpenSpec.ofChange tableRightSpec)) tableRightCard

/-- THE TIED CARD OF 'endonymlaw6.TableChecks'. -/
def tableChecksCard : Claim7 := { stood := { row := tableChecksRow, standIns := [], harness := (true, "0bce902fa8fa3674fa031c303211e90a8045afc20a1a7e152a940ba05303da35"), looks := false }, kinds := [], alts := [], laidByText := true, laidKinds := [.data, .data, .data], laidTests := true, laidLooks := .later }
def TableChecksCardSaid : Prop := Claim7.holds Tryz.pinned (.plain (OpenSpec.ofChange tableChecksSpec)) tableChecksCard

/-- THE TIED CARD OF 'endonymlaw6.TablePrints'. -/
def tablePrintsCard : Claim7 := { stood := { row := tablePrintsRow, standIns := [], harness := (true, "0bce902fa8fa3674fa031c303211e90a8045afc20a1a7e152a940ba05303da35"), looks := false }, kinds := [], alts := [], laidByText := true, laidKinds := [.data, .data, .data], laidTests := true, laidLooks := .later }
def TablePrintsCardSaid : Prop := Claim7.holds Tryz.pinned (.plain (OpenSpec.ofChange tablePrintsSpec)) tablePrintsCard

/-- THE TIED CARD OF 'endonymlaw6.TableBack'. -/
def tableBackCard : Claim7 := { stood := { row := tableBackRow, standIns := [], harness := (true, "0bce902fa8fa3674fa031c303211e90a8045afc20a1a7e152a940ba05303da35"), looks := false }, kinds := [], alts := [], laidByText := true, laidKinds := [.data, .data, .data], laidTests := true, laidLooks := .later }
def TableBackCardSaid : Prop := Claim7.holds Tryz.pinned (.plain (OpenSpec.ofChange tableBackSpec)) tableBackCard

/-- THE TIED CARD OF 'endonymlaw6.TableJoins'. -/
def tableJoinsCard : Claim7 := { stood := { row := tableJoinsRow, standIns := [], harness := (true, "0bce902fa8fa3674fa031c303211e90a8045afc20a1a7e152a940ba05303da35"), looks := false }, kinds := [], alts := [], laidByText := true, laidKinds := [.data, .data, .data], laidTests := true, laidLooks := .later }
def TableJoinsCardSaid : Prop := Claim7.holds Tryz.pinned (.plain (OpenSpec.ofChange tableJoinsSpec)) tableJoinsCard

/-- THE TIED CARD OF 'endonymlaw6.TableRemarks'. -/
def tableRemarksCard : Claim7 := { stood := { row := tableRemarksRow, standIns := [], harness := (true, "0bce902fa8fa3674fa031c303211e90a8045afc20a1a7e152a940ba05303da35"), looks := false }, kinds := [], alts := [], laidByText := true, laidKinds := [.data, .data, .data], laidTests := true, laidLooks := .later }
def TableRemarksCardSaid : Prop := Claim7.holds Tryz.pinned (.plain (OpenSpec.ofChange tableRemarksSpec)) tableRemarksCard

/-- THE TIED CARD OF 'endonymlaw6.TableParses'. -/
def tableParsesCard : Claim7 := { stood := { row := tableParsesRow, standIns := [], harness := (true, "0bce902fa8fa3674fa031c303211e90a8045afc20a1a7e152a940ba05303da35"), looks := false }, kinds := [], alts := [], laidByText := true, laidKinds := [.data, .data, .data], laidTests := true, laidLooks := .later }
def TableParsesCardSaid : Prop := Claim7.holds Tryz.pinned (.plain (OpenSpec.ofChange tableParsesSpec)) tableParsesCard

/-- THE TIED CARD OF 'endonymlaw6.TableFinds'. -/
def tableFindsCard : Claim7 := { stood := { row := tableFindsRow, standIns := [], harness := (true, "0bce902fa8fa3674fa031c303211e90a8045afc20a1a7e152a940ba05303da35"), looks := false }, kinds := [], alts := [], laidByText := true, laidKinds := [.data, .data, .data], laidTests := true, laidLooks := .later }
def TableFindsCardSaid : Prop := Claim7.holds Tryz.pinned (.plain (OpenSpec.ofChange tableFindsSpec)) tableFindsCard

/-- THE TIED CARD OF 'endonymlaw6.TableOnce'. -/
def tableOnceCard : Claim7 := { stood := { row := tableOnceRow, standIns := [], harness := (true, "0bce902fa8fa3674fa031c303211e90a8045afc20a1a7e152a940ba05303da35"), looks := false }, kinds := [], alts := [], laidByText := true, laidKinds := [.data, .data, .data], laidTests := true, laidLooks := .later }
def TableOnceCardSaid : Prop := Claim7.holds Tryz.pinned (.plain (OpenSpec.ofChange tableOnceSpec)) tableOnceCard

/-- THE TIED CARD OF 'endonymlaw6.TableMore'. -/
def tableMoreCard : Claim7 := { stood := { row := tableMoreRow, standIns := [], harness := (true, "0bce902fa8fa3674fa031c303211e90a8045afc20a1a7e152a940ba05303da35"), looks := false }, kinds := [], alts := [], laidByText := true, laidKinds := [.data, .data, .data], laidTests := true, laidLooks := .later }
def TableMoreCardSaid : Prop := Claim7.holds Tryz.pinned (.plain (OpenSpec.ofChange tableMoreSpec)) tableMoreCard

/-- THE TIED CARD OF 'endonymlaw6.TableSame'. -/
def tableSameCard : Claim7 := { stood := { row := tableSameRow, standIns := [], harness := (true, "0bce902fa8fa3674fa031c303211e90a8045afc20a1a7e152a940ba05303da35"), looks := false }, kinds := [], alts := [], laidByText := true, laidKinds := [.data, .data, .data], laidTests := true, laidLooks := .later }
def TableSameCardSaid : Prop := Claim7.holds Tryz.pinned (.plain (OpenSpec.ofChange tableSameSpec)) tableSameCard

/-- THE SECOND FORM's CARD OF 'endonymlaw6.TableRight'. -/
def tableRightUptoCard : Claim7 := { stood := { row := tableRightUptoRow, standIns := [], harness := (true, "0bce902fa8fa3674fa031c303211e90a8045afc20a1a7e152a940ba05303da35"), looks := false }, kinds := [], alts := [], laidByText := true, laidKinds := [.data, .data, .data], laidTests := true, laidLooks := .later }
def TableRightUptoCardSaid : Prop := Claim7.holds Tryz.pinned (.plain (OpenSpec.upto tableRightSpec)) tableRightUptoCard

/-- THE SECOND FORM's CARD OF 'endonymlaw6.TableChecks'. -/
def tableChecksUptoCard : Claim7 := { stood := { row := tableChecksUptoRow, standIns := [], harness := (true, "0bce902fa8fa3674fa031c303211e90a8045afc20a1a7e152a940ba05303da35"), looks := false }, kinds := [], alts := [], laidByText := true, laidKinds := [.data, .data, .data], laidTests := true, laidLooks := .later }
def TableChecksUptoCardSaid : Prop := Claim7.holds Tryz.pinned (.plain (OpenSpec.upto tableChecksSpec)) tableChecksUptoCard

/-- THE SECOND FORM's CARD OF 'endonymlaw6.TablePrints'. -/
def tablePrintsUptoCard : Claim7 := { stood := { row := tablePrintsUptoRow, standIns := [], harness := (true, "0bce902fa8fa3674fa031c303211e90a8045afc20a1a7e152a940ba05303da35"), looks := false }, kinds := [], alts := [], laidByText := true, laidKinds := [.data, .data, .data], laidTests := true, laidLooks := .later }
def TablePrintsUptoCardSaid : Prop := Claim7.holds Tryz.pinned (.plain (OpenSpec.upto tablePrintsSpec)) tablePrintsUptoCard

/-- THE SECOND FORM's CARD OF 'endonymlaw6.TableBack'. -/
def tableBackUptoCard : Claim7 := { stood := { row := tableBackUptoRow, standIns := [], harness := (true, "0bce902fa8fa3674fa031c303211e90a8045afc20a1a7e152a940ba05303da35"), looks := false }, kinds := [], alts := [], laidByText := true, laidKinds := [.data, .data, .data], laidTests := true, laidLooks := .later }
def TableBackUptoCardSaid : Prop := Claim7.holds Tryz.pinned (.plain (OpenSpec.upto tableBackSpec)) tableBackUptoCard

/-- THE SECOND FORM's CARD OF 'endonymlaw6.TableJoins'. -/
def tableJoinsUptoCard : Claim7 := { stood := { row := tableJoinsUptoRow, standIns := [], harness := (true, "0bce902fa8fa3674fa031c303211e90a8045afc20a1a7e152a940ba05303da35"), looks := false }, kinds := [], alts := [], laidByText := true, laidKinds := [.data, .data, .data], laidTests := true, laidLooks := .later }
def TableJoinsUptoCardSaid : Prop := Claim7.holds Tryz.pinned (.plain (OpenSpec.upto tableJoinsSpec)) tableJoinsUptoCard

/-- THE SECOND FORM's CARD OF 'endonymlaw6.TableRemarks'. -/
def tableRemarksUptoCard : Claim7 := { stood := { row := tableRemarksUptoRow, standIns := [], harness := (true, "0bce902fa8fa3674fa031c303211e90a8045afc20a1a7e152a940ba05303da35"), looks := false }, kinds := [], alts := [], laidByText := true, laidKinds := [.data, .data, .data], laidTests := true, laidLooks := .later }
def TableRemarksUptoCardSaid : Prop := Claim7.holds Tryz.pinned (.plain (OpenSpec.upto tableRemarksSpec)) tableRemarksUptoCard

/-- THE SECOND FORM's CARD OF 'endonymlaw6.TableParses'. -/
def tableParsesUptoCard : Claim7 := { stood := { row := tableParsesUptoRow, standIns := [], harness := (true, "0bce902fa8fa3674fa031c303211e90a8045afc20a1a7e152a940ba05303da35"), looks := false }, kinds := [], alts := [], laidByText := true, laidKinds := [.data, .data, .data], laidTests := true, laidLooks := .later }
def TableParsesUptoCardSaid : Prop := Claim7.holds Tryz.pinned (.plain (OpenSpec.upto tableParsesSpec)) tableParsesUptoCard

/-- THE SECOND FORM's CARD OF 'endonymlaw6.TableFinds'. -/
def tableFindsUptoCard : Claim7 := { stood := { row := tableFindsUptoRow, standIns := [], harness := (true, "0bce902fa8fa3674fa031c303211e90a8045afc20a1a7e152a940ba05303da35"), looks := false }, kinds := [], alts := [], laidByText := true, laidKinds := [.data, .data, .data], laidTests := true, laidLooks := .later }
def TableFindsUptoCardSaid : Prop := Claim7.holds Tryz.pinned (.plain (OpenSpec.upto tableFindsSpec)) tableFindsUptoCard

/-- THE SECOND FORM's CARD OF 'endonymlaw6.TableOnce'. -/
def tableOnceUptoCard : Claim7 := { stood := { row := tableOnceUptoRow, standIns := [], harness := (true, "0bce902fa8fa3674fa031c303211e90a8045afc20a1a7e152a940ba05303da35"), looks := false }, kinds := [], alts := [], laidByText := true, laidKinds := [.data, .data, .data], laidTests := true, laidLooks := .later }
def TableOnceUptoCardSaid : Prop := Claim7.holds Tryz.pinned (.plain (OpenSpec.upto tableOnceSpec)) tableOnceUptoCard

/-- THE SECOND FORM's CARD OF 'endonymlaw6.TableMore'. -/
def tableMoreUptoCard : Claim7 := { stood := { row := tableMoreUptoRow, standIns := [], harness := (true, "0bce902fa8fa3674fa031c303211e90a8045afc20a1a7e152a940ba05303da35"), looks := false }, kinds := [], alts := [], laidByText := true, laidKinds := [.data, .data, .data], laidTests := true, laidLooks := .later }
def TableMoreUptoCardSaid : Prop := Claim7.holds Tryz.pinned (.plain (OpenSpec.upto tableMoreSpec)) tableMoreUptoCard

/-- THE SECOND FORM's CARD OF 'endonymlaw6.TableSame'. -/
def tableSameUptoCard : Claim7 := { stood := { row := tableSameUptoRow, standIns := [], harness := (true, "0bce902fa8fa3674fa031c303211e90a8045afc20a1a7e152a940ba05303da35"), looks := false }, kinds := [], alts := [], laidByText := true, laidKinds := [.data, .data, .data], laidTests := true, laidLooks := .later }
def TableSameUptoCardSaid : Prop := Claim7.holds Tryz.pinned (.plain (OpenSpec.upto tableSameSpec)) tableSameUptoCard
end Rows
end Go.Proofs.YtnoppeocbfapdaaGreatDoor
