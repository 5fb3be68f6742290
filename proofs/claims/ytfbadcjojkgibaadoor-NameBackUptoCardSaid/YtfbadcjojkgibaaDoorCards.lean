/-
  DERIVED. GIVEN WITH THE SEED: THE CARDS: each row of YtfbadcjojkgibaaDoorRows.lean that lists a variable, with what it lists TIED to the program's text (the seventh form; the later family's looks); each row that meets fmt, with fmt's text TOLD by the authors' own Lean function (tested against real Go, not proved from fmt's source: count such statements apart). THE CARD IS WHAT COUNTS. Prove the row's statement (the work); the ties are given (YtfbadcjojkgibaaDoorTie.lean); close each card by the builder's one call (the guide's Derived/Test/ToyasCard.lean, 'card_holds'). Laid BY PROGRAM, IN A SANDBOX (cutbox-door.mjs). By AI agents, Wed Nov 11 2026. No macro, syntax, notation, axiom, sorry.
-/
import Derived.Test.YtfbadcjojkgibaaDoorRows
import GoSem.ClaimSeven
namespace Go.Proofs.YtfbadcjojkgibaaDoor
namespace Rows

/-- THE TIED CARD OF 'endonymlaw20.NameCompares'. -/
def nameComparesCard : Claim7 := { stood := { row := nameComparesRow, standIns := [], harness := (true, "6415e76086644f9a3e9e9bb2d825f6d8713eb5709da5ccd76570f90c95eef637"), looks := false }, kinds := [], alts := [], laidByText := true, laidKinds := [.data, .pinned], laidTests := true, laidLooks := .later }
def NameComparesCardSaid : Prop := Claim7.holds Tryd.pinned (.plain (OpenSpec.ofChange nameComparesSpec)) nameComparesCard

/-- THE TIED CARD OF 'endonymlaw20.NameSorts'. -/
def nameSortsCard : Claim7 := { stood := { row := nameSortsRow, standIns := [], harness := (true, "6415e76086644f9a3e9e9bb2d825f6d8713eb5709da5ccd76570f90c95eef637"), looks := false }, kinds := [], alts := [], laidByText := true, laidKinds := [.data, .pinned], laidTests := true, laidLooks := .later }
def NameSortsCardSaid : Prop := Claim7.holds Tryd.pinned (.plain (OpenSpec.ofChange nameSortsSpec)) nameSortsCard

/-- THE TIED CARD OF 'endonymlaw20.NameBack'. -/
def nameBackCard : Claim7 := { stood := { row := nameBackRow, standIns := [], harness := (true, "6415e76086644f9a3e9e9bb2d825f6d8713eb5709da5ccd76570f90c95eef637"), looks := false }, kinds := [], alts := [], laidByText := true, laidKinds := [.data, .pinned], laidTests := true, laidLooks := .later }
def NameBackCardSaid : Prop := Claim7.holds Tryd.pinned (.plain (OpenSpec.ofChange nameBackSpec)) nameBackCard

/-- THE TIED CARD OF 'endonymlaw20.NameOrder'. -/
def nameOrderCard : Claim7 := { stood := { row := nameOrderRow, standIns := [], harness := (true, "6415e76086644f9a3e9e9bb2d825f6d8713eb5709da5ccd76570f90c95eef637"), looks := false }, kinds := [], alts := [], laidByText := true, laidKinds := [.data, .pinned], laidTests := true, laidLooks := .later }
def NameOrderCardSaid : Prop := Claim7.holds Tryd.pinned (.plain (OpenSpec.ofChange nameOrderSpec)) nameOrderCard

/-- THE TIED CARD OF 'endonymlaw20.NameLies'. -/
def nameLiesCard : Claim7 := { stood := { row := nameLiesRow, standIns := [], harness := (true, "6415e76086644f9a3e9e9bb2d825f6d8713eb5709da5ccd76570f90c95eef637"), looks := false }, kinds := [], alts := [], laidByText := true, laidKinds := [.data, .pinned], laidTests := true, laidLooks := .later }
def NameLiesCardSaid : Prop := Claim7.holds Tryd.pinned (.plain (OpenSpec.ofChange nameLiesSpec)) nameLiesCard

/-- THE TIED CARD OF 'endonymlaw20.NameUp'. -/
def nameUpCard : Claim7 := { stood := { row := nameUpRow, standIns := [], harness := (true, "6415e76086644f9a3e9e9bb2d825f6d8713eb5709da5ccd76570f90c95eef637"), looks := false }, kinds := [], alts := [], laidByText := true, laidKinds := [.data, .pinned], laidTests := true, laidLooks := .later }
def NameUpCardSaid : Prop := Claim7.holds Tryd.pinned (.plain (OpenSpec.ofChange nameUpSpec)) nameUpCard

/-- THE SECOND FORM's CARD OF 'endonymlaw20.NameCompares'. -/
def nameComparesUptoCard : Claim7 := { stood := { row := nameComparesUptoRow, standIns := [], harness := (true, "6415e76086644f9a3e9e9bb2d825f6d8713eb5709da5ccd76570f90c95eef637"), looks := false }, kinds := [], alts := [], laidByText := true, laidKinds := [.data, .pinned], laidTests := true, laidLooks := .later }
def NameComparesUptoCardSaid : Prop := Claim7.holds Tryd.pinned (.plain (OpenSpec.upto nameComparesSpec)) nameComparesUptoCard

/-- THE SECOND FORM's CARD OF 'endonymlaw20.NameSorts'. -/
def nameSortsUptoCard : Claim7 := { stood := { row := nameSortsUptoRow, standIns := [], harness := (true, "6415e76086644f9a3e9e9bb2d825f6d8713eb5709da5ccd76570f90c95eef637"), looks := false }, kinds := [], alts := [], laidByText := true, laidKinds := [.data, .pinned], laidTests := true, laidLooks := .later }
def NameSortsUptoCardSaid : Prop := Claim7.holds Tryd.pinned (.plain (OpenSpec.upto nameSortsSpec)) nameSortsUptoCard

/-- THE SECOND FORM's CARD OF 'endonymlaw20.NameBack'. -/
def nameBackUptoCard : Claim7 := { stood := { row := nameBackUptoRow, standIns := [], harness := (true, "6415e76086644f9a3e9e9bb2d825f6d8713eb5709da5ccd76570f90c95eef637"), looks := false }, kinds := [], alts := [], laidByText := true, laidKinds := [.data, .pinned], laidTests := true, laidLooks := .later }
def NameBackUptoCardSaid : Prop := Claim7.holds Tryd.pinned (.plain (OpenSpec.upto nameBackSpec)) nameBackUptoCard

/-- THE SECOND FORM's CARD OF 'endonymlaw20.NameOrder'. -/
def nameOrderUptoCard : Claim7 := { stood := { row := nameOrderUptoRow, standIns := [], harness := (true, "6415e76086644f9a3e9e9bb2d825f6d8713eb5709da5ccd76570f90c95eef637"), looks := false }, kinds := [], alts := [], laidByText := true, laidKinds := [.data, .pinned], laidTests := true, laidLooks := .later }
def NameOrderUptoCardSaid : Prop := Claim7.holds Tryd.pinned (.plain (OpenSpec.upto nameOrderSpec)) nameOrderUptoCard

/-- THE SECOND FORM's CARD OF 'endonymlaw20.NameLies'. -/
def nameLiesUptoCard : Claim7 := { stood := { row := nameLiesUptoRow, standIns := [], harness := (true, "6415e76086644f9a3e9e9bb2d825f6d8713eb5709da5ccd76570f90c95eef637"), looks := false }, kinds := [], alts := [], laidByText := true, laidKinds := [.data, .pinned], laidTests := true, laidLooks := .later }
def NameLiesUptoCardSaid : Prop := Claim7.holds Tryd.pinned (.plain (OpenSpec.upto nameLiesSpec)) nameLiesUptoCard

/-- THE SECOND FORM's CARD OF 'endonymlaw20.NameUp'. -/
def nameUpUptoCard : Claim7 := { stood := { row := nameUpUptoRow, standIns := [], harness := (true, "6415e76086644f9a3e9e9bb2d825f6d8713eb5709da5ccd76570f90c95eef637"), looks := false }, kinds := [], alts := [], laidByText := true, laidKinds := [.data, .pinned], laidTests := true, laidLooks := .later }
def NameUpUptoCardSaid : Prop := Claim7.holds Tryd.pinned (.plain (OpenSpec.upto nameUpSpec)) nameUpUptoCard
end Rows
end Go.Proofs.YtfbadcjojkgibaaDoor
