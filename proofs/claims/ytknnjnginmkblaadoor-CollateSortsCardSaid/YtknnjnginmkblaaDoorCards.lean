/-
  DERIVED. GIVEN WITH THE SEED: THE CARDS: each row of YtknnjnginmkblaaDoorRows.lean that lists a variable, with what it lists TIED to the program's text (the seventh form; the later family's looks); each row that meets fmt, with fmt's text TOLD by the authors' own Lean function (tested against real Go, not proved from fmt's source: count such statements apart). THE CARD IS WHAT COUNTS. Prove the row's statement (the work); the ties are given (YtknnjnginmkblaaDoorTie.lean); close each card by the builder's one call (the guide's Derived/Test/ToyasCard.lean, 'card_holds'). Laid BY PROGRAM, IN A SANDBOX (cutbox-door.mjs). By AI agents, Wed Nov 11 2026. No macro, syntax, notation, axiom, sorry.
-/
import Derived.Test.YtknnjnginmkblaaDoorRows
import GoSem.ClaimSeven
namespace Go.Proofs.YtknnjnginmkblaaDoor
namespace Rows

/-- THE TIED CARD OF 'obeluslaw06.CollateKeys'. -/
def collateKeysCard : Claim7 := { stood := { row := collateKeysRow, standIns := [], harness := (true, "9aaccb91619efc3ac92ce094fdc5361738cb71dc777a1e139c60a62e3c9882d7"), looks := false }, kinds := [], alts := [], laidByText := true, laidKinds := [.data, .pinned], laidTests := true, laidLooks := .later }
def CollateKeysCardSaid : Prop := Claim7.holds Tryd.pinned (.plain (OpenSpec.ofChange collateKeysSpec)) collateKeysCard

/-- THE TIED CARD OF 'obeluslaw06.CollateCompares'. -/
def collateComparesCard : Claim7 := { stood := { row := collateComparesRow, standIns := [], harness := (true, "9aaccb91619efc3ac92ce094fdc5361738cb71dc777a1e139c60a62e3c9882d7"), looks := false }, kinds := [], alts := [], laidByText := true, laidKinds := [.data, .pinned], laidTests := true, laidLooks := .later }
def CollateComparesCardSaid : Prop := Claim7.holds Tryd.pinned (.plain (OpenSpec.ofChange collateComparesSpec)) collateComparesCard

/-- THE TIED CARD OF 'obeluslaw06.CollateOrders'. -/
def collateOrdersCard : Claim7 := { stood := { row := collateOrdersRow, standIns := [], harness := (true, "9aaccb91619efc3ac92ce094fdc5361738cb71dc777a1e139c60a62e3c9882d7"), looks := false }, kinds := [], alts := [], laidByText := true, laidKinds := [.data, .pinned], laidTests := true, laidLooks := .later }
def CollateOrdersCardSaid : Prop := Claim7.holds Tryd.pinned (.plain (OpenSpec.ofChange collateOrdersSpec)) collateOrdersCard

/-- THE TIED CARD OF 'obeluslaw06.CollateStrengths'. -/
def collateStrengthsCard : Claim7 := { stood := { row := collateStrengthsRow, standIns := [], harness := (true, "9aaccb91619efc3ac92ce094fdc5361738cb71dc777a1e139c60a62e3c9882d7"), looks := false }, kinds := [], alts := [], laidByText := true, laidKinds := [.data, .pinned], laidTests := true, laidLooks := .later }
def CollateStrengthsCardSaid : Prop := Claim7.holds Tryd.pinned (.plain (OpenSpec.ofChange collateStrengthsSpec)) collateStrengthsCard

/-- THE TIED CARD OF 'obeluslaw06.CollateNumbers'. -/
def collateNumbersCard : Claim7 := { stood := { row := collateNumbersRow, standIns := [], harness := (true, "9aaccb91619efc3ac92ce094fdc5361738cb71dc777a1e139c60a62e3c9882d7"), looks := false }, kinds := [], alts := [], laidByText := true, laidKinds := [.data, .pinned], laidTests := true, laidLooks := .later }
def CollateNumbersCardSaid : Prop := Claim7.holds Tryd.pinned (.plain (OpenSpec.ofChange collateNumbersSpec)) collateNumbersCard

/-- THE TIED CARD OF 'obeluslaw06.CollateMarks'. -/
def collateMarksCard : Claim7 := { stood := { row := collateMarksRow, standIns := [], harness := (true, "9aaccb91619efc3ac92ce094fdc5361738cb71dc777a1e139c60a62e3c9882d7"), looks := false }, kinds := [], alts := [], laidByText := true, laidKinds := [.data, .pinned], laidTests := true, laidLooks := .later }
def CollateMarksCardSaid : Prop := Claim7.holds Tryd.pinned (.plain (OpenSpec.ofChange collateMarksSpec)) collateMarksCard

/-- THE TIED CARD OF 'obeluslaw06.CollateLong'. -/
def collateLongCard : Claim7 := { stood := { row := collateLongRow, standIns := [], harness := (true, "9aaccb91619efc3ac92ce094fdc5361738cb71dc777a1e139c60a62e3c9882d7"), looks := false }, kinds := [], alts := [], laidByText := true, laidKinds := [.data, .pinned], laidTests := true, laidLooks := .later }
def CollateLongCardSaid : Prop := Claim7.holds Tryd.pinned (.plain (OpenSpec.ofChange collateLongSpec)) collateLongCard

/-- THE TIED CARD OF 'obeluslaw06.CollateElements'. -/
def collateElementsCard : Claim7 := { stood := { row := collateElementsRow, standIns := [], harness := (true, "9aaccb91619efc3ac92ce094fdc5361738cb71dc777a1e139c60a62e3c9882d7"), looks := false }, kinds := [], alts := [], laidByText := true, laidKinds := [.data, .pinned], laidTests := true, laidLooks := .later }
def CollateElementsCardSaid : Prop := Claim7.holds Tryd.pinned (.plain (OpenSpec.ofChange collateElementsSpec)) collateElementsCard

/-- THE TIED CARD OF 'obeluslaw06.CollateInitials'. -/
def collateInitialsCard : Claim7 := { stood := { row := collateInitialsRow, standIns := [], harness := (true, "9aaccb91619efc3ac92ce094fdc5361738cb71dc777a1e139c60a62e3c9882d7"), looks := false }, kinds := [], alts := [], laidByText := true, laidKinds := [.data, .pinned], laidTests := true, laidLooks := .later }
def CollateInitialsCardSaid : Prop := Claim7.holds Tryd.pinned (.plain (OpenSpec.ofChange collateInitialsSpec)) collateInitialsCard

/-- THE TIED CARD OF 'obeluslaw06.CollatePrefixes'. -/
def collatePrefixesCard : Claim7 := { stood := { row := collatePrefixesRow, standIns := [], harness := (true, "9aaccb91619efc3ac92ce094fdc5361738cb71dc777a1e139c60a62e3c9882d7"), looks := false }, kinds := [], alts := [], laidByText := true, laidKinds := [.data, .pinned], laidTests := true, laidLooks := .later }
def CollatePrefixesCardSaid : Prop := Claim7.holds Tryd.pinned (.plain (OpenSpec.ofChange collatePrefixesSpec)) collatePrefixesCard

/-- THE TIED CARD OF 'obeluslaw06.CollateSorts'. -/
def collateSortsCard : Claim7 := { stood := { row := collateSortsRow, standIns := [], harness := (true, "9aaccb91619efc3ac92ce094fdc5361738cb71dc777a1e139c60a62e3c9882d7"), looks := false }, kinds := [], alts := [], laidByText := true, laidKinds := [.data, .pinned], laidTests := true, laidLooks := .later }
def CollateSortsCardSaid : Prop := Claim7.holds Tryd.pinned (.plain (OpenSpec.ofChange collateSortsSpec)) collateSortsCard

/-- THE SECOND FORM's CARD OF 'obeluslaw06.CollateKeys'. -/
def collateKeysUptoCard : Claim7 := { stood := { row := collateKeysUptoRow, standIns := [], harness := (true, "9aaccb91619efc3ac92ce094fdc5361738cb71dc777a1e139c60a62e3c9882d7"), looks := false }, kinds := [], alts := [], laidByText := true, laidKinds := [.data, .pinned], laidTests := true, laidLooks := .later }
def CollateKeysUptoCardSaid : Prop := Claim7.holds Tryd.pinned (.plain (OpenSpec.upto collateKeysSpec)) collateKeysUptoCard

/-- THE SECOND FORM's CARD OF 'obeluslaw06.CollateCompares'. -/
def collateComparesUptoCard : Claim7 := { stood := { row := collateComparesUptoRow, standIns := [], harness := (true, "9aaccb91619efc3ac92ce094fdc5361738cb71dc777a1e139c60a62e3c9882d7"), looks := false }, kinds := [], alts := [], laidByText := true, laidKinds := [.data, .pinned], laidTests := true, laidLooks := .later }
def CollateComparesUptoCardSaid : Prop := Claim7.holds Tryd.pinned (.plain (OpenSpec.upto collateComparesSpec)) collateComparesUptoCard

/-- THE SECOND FORM's CARD OF 'obeluslaw06.CollateOrders'. -/
def collateOrdersUptoCard : Claim7 := { stood := { row := collateOrdersUptoRow, standIns := [], harness := (true, "9aaccb91619efc3ac92ce094fdc5361738cb71dc777a1e139c60a62e3c9882d7"), looks := false }, kinds := [], alts := [], laidByText := true, laidKinds := [.data, .pinned], laidTests := true, laidLooks := .later }
def CollateOrdersUptoCardSaid : Prop := Claim7.holds Tryd.pinned (.plain (OpenSpec.upto collateOrdersSpec)) collateOrdersUptoCard

/-- THE SECOND FORM's CARD OF 'obeluslaw06.CollateStrengths'. -/
def collateStrengthsUptoCard : Claim7 := { stood := { row := collateStrengthsUptoRow, standIns := [], harness := (true, "9aaccb91619efc3ac92ce094fdc5361738cb71dc777a1e139c60a62e3c9882d7"), looks := false }, kinds := [], alts := [], laidByText := true, laidKinds := [.data, .pinned], laidTests := true, laidLooks := .later }
def CollateStrengthsUptoCardSaid : Prop := Claim7.holds Tryd.pinned (.plain (OpenSpec.upto collateStrengthsSpec)) collateStrengthsUptoCard

/-- THE SECOND FORM's CARD OF 'obeluslaw06.CollateNumbers'. -/
def collateNumbersUptoCard : Claim7 := { stood := { row := collateNumbersUptoRow, standIns := [], harness := (true, "9aaccb91619efc3ac92ce094fdc5361738cb71dc777a1e139c60a62e3c9882d7"), looks := false }, kinds := [], alts := [], laidByText := true, laidKinds := [.data, .pinned], laidTests := true, laidLooks := .later }
def CollateNumbersUptoCardSaid : Prop := Claim7.holds Tryd.pinned (.plain (OpenSpec.upto collateNumbersSpec)) collateNumbersUptoCard

/-- THE SECOND FORM's CARD OF 'obeluslaw06.CollateMarks'. -/
def collateMarksUptoCard : Claim7 := { stood := { row := collateMarksUptoRow, standIns := [], harness := (true, "9aaccb91619efc3ac92ce094fdc5361738cb71dc777a1e139c60a62e3c9882d7"), looks := false }, kinds := [], alts := [], laidByText := true, laidKinds := [.data, .pinned], laidTests := true, laidLooks := .later }
def CollateMarksUptoCardSaid : Prop := Claim7.holds Tryd.pinned (.plain (OpenSpec.upto collateMarksSpec)) collateMarksUptoCard

/-- THE SECOND FORM's CARD OF 'obeluslaw06.CollateLong'. -/
def collateLongUptoCard : Claim7 := { stood := { row := collateLongUptoRow, standIns := [], harness := (true, "9aaccb91619efc3ac92ce094fdc5361738cb71dc777a1e139c60a62e3c9882d7"), looks := false }, kinds := [], alts := [], laidByText := true, laidKinds := [.data, .pinned], laidTests := true, laidLooks := .later }
def CollateLongUptoCardSaid : Prop := Claim7.holds Tryd.pinned (.plain (OpenSpec.upto collateLongSpec)) collateLongUptoCard

/-- THE SECOND FORM's CARD OF 'obeluslaw06.CollateElements'. -/
def collateElementsUptoCard : Claim7 := { stood := { row := collateElementsUptoRow, standIns := [], harness := (true, "9aaccb91619efc3ac92ce094fdc5361738cb71dc777a1e139c60a62e3c9882d7"), looks := false }, kinds := [], alts := [], laidByText := true, laidKinds := [.data, .pinned], laidTests := true, laidLooks := .later }
def CollateElementsUptoCardSaid : Prop := Claim7.holds Tryd.pinned (.plain (OpenSpec.upto collateElementsSpec)) collateElementsUptoCard

/-- THE SECOND FORM's CARD OF 'obeluslaw06.CollateInitials'. -/
def collateInitialsUptoCard : Claim7 := { stood := { row := collateInitialsUptoRow, standIns := [], harness := (true, "9aaccb91619efc3ac92ce094fdc5361738cb71dc777a1e139c60a62e3c9882d7"), looks := false }, kinds := [], alts := [], laidByText := true, laidKinds := [.data, .pinned], laidTests := true, laidLooks := .later }
def CollateInitialsUptoCardSaid : Prop := Claim7.holds Tryd.pinned (.plain (OpenSpec.upto collateInitialsSpec)) collateInitialsUptoCard

/-- THE SECOND FORM's CARD OF 'obeluslaw06.CollatePrefixes'. -/
def collatePrefixesUptoCard : Claim7 := { stood := { row := collatePrefixesUptoRow, standIns := [], harness := (true, "9aaccb91619efc3ac92ce094fdc5361738cb71dc777a1e139c60a62e3c9882d7"), looks := false }, kinds := [], alts := [], laidByText := true, laidKinds := [.data, .pinned], laidTests := true, laidLooks := .later }
def CollatePrefixesUptoCardSaid : Prop := Claim7.holds Tryd.pinned (.plain (OpenSpec.upto collatePrefixesSpec)) collatePrefixesUptoCard

/-- THE SECOND FORM's CARD OF 'obeluslaw06.CollateSorts'. -/
def collateSortsUptoCard : Claim7 := { stood := { row := collateSortsUptoRow, standIns := [], harness := (true, "9aaccb91619efc3ac92ce094fdc5361738cb71dc777a1e139c60a62e3c9882d7"), looks := false }, kinds := [], alts := [], laidByText := true, laidKinds := [.data, .pinned], laidTests := true, laidLooks := .later }
def CollateSortsUptoCardSaid : Prop := Claim7.holds Tryd.pinned (.plain (OpenSpec.upto collateSortsSpec)) collateSortsUptoCard
end Rows
end Go.Proofs.YtknnjnginmkblaaDoor
