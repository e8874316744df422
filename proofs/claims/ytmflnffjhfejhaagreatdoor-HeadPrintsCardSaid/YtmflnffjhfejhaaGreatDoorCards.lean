/-
  DERIVED. GIVEN WITH THE SEED: THE CARDS: each row of YtmflnffjhfejhaaGreatDoorRows.lean that lists a variable, with what it lists TIED to the program's text (the seventh form; the later family's looks); each row that meets fmt, with fmt's text TOLD by the authors' own Lean function (tested against real Go, not proved from fmt's source: count such statements apart). THE CARD IS WHAT COUNTS. Prove the row's statement (the work); the ties are given (YtmflnffjhfejhaaGreatDoorTie.lean); close each card by the builder's one call (the guide's Derived/Test/ToyasCard.lean, 'card_holds'). Laid BY PROGRAM, IN A SANDBOX (cutbox-door.mjs). By AI agents, Wed Nov 11 2026. No macro, syntax, notation, axiom, sorry.
-/
import Derived.Test.YtmflnffjhfejhaaGreatDoorRows
import GoSem.ClaimSeven
namespace Go.Proofs.YtmflnffjhfejhaaGreatDoor
namespace Rows

/-- THE TIED CARD OF 'ostiarylaw09.HeadReads'. -/
def headReadsCard : Claim7 := { stood := { row := headReadsRow, standIns := [], harness := (true, "b47d2004a426dd2e90ee275ea1336e75a98bc8c47e423938c7dc3b76ae6f5fe3"), looks := true }, kinds := [], alts := [], laidByText := true, laidKinds := [.data, .data, .data, .data, .sentinel, .sentinel, .pinned], laidTests := true, laidLooks := .later }
def HeadReadsCardSaid : Prop := Claim7.holds Tryz.pinned (.plain (OpenSpec.ofChange headReadsSpec)) headReadsCard

/-- THE TIED CARD OF 'ostiarylaw09.HeadShort'. -/
def headShortCard : Claim7 := { stood := { row := headShortRow, standIns := [], harness := (true, "b47d2004a426dd2e90ee275ea1336e75a98bc8c47e423938c7dc3b76ae6f5fe3"), looks := true }, kinds := [], alts := [], laidByText := true, laidKinds := [.data, .data, .data, .data, .sentinel, .sentinel, .pinned], laidTests := true, laidLooks := .later }
def HeadShortCardSaid : Prop := Claim7.holds Tryz.pinned (.plain (OpenSpec.ofChange headShortSpec)) headShortCard

/-- THE TIED CARD OF 'ostiarylaw09.HeadPrints'. -/
def headPrintsCard : Claim7 := { stood := { row := headPrintsRow, standIns := [], harness := (true, "b47d2004a426dd2e90ee275ea1336e75a98bc8c47e423938c7dc3b76ae6f5fe3"), looks := true }, kinds := [], alts := [], laidByText := true, laidKinds := [.data, .data, .data, .data, .sentinel, .sentinel, .pinned], laidTests := true, laidLooks := .later }
def HeadPrintsCardSaid : Prop := Claim7.holds Tryz.pinned (.plain (OpenSpec.ofChange headPrintsSpec)) headPrintsCard

/-- THE SECOND FORM's CARD OF 'ostiarylaw09.HeadReads'. -/
def headReadsUptoCard : Claim7 := { stood := { row := headReadsUptoRow, standIns := [], harness := (true, "b47d2004a426dd2e90ee275ea1336e75a98bc8c47e423938c7dc3b76ae6f5fe3"), looks := true }, kinds := [], alts := [], laidByText := true, laidKinds := [.data, .data, .data, .data, .sentinel, .sentinel, .pinned], laidTests := true, laidLooks := .later }
def HeadReadsUptoCardSaid : Prop := Claim7.holds Tryz.pinned (.plain (OpenSpec.upto headReadsSpec)) headReadsUptoCard

/-- THE SECOND FORM's CARD OF 'ostiarylaw09.HeadShort'. -/
def headShortUptoCard : Claim7 := { stood := { row := headShortUptoRow, standIns := [], harness := (true, "b47d2004a426dd2e90ee275ea1336e75a98bc8c47e423938c7dc3b76ae6f5fe3"), looks := true }, kinds := [], alts := [], laidByText := true, laidKinds := [.data, .data, .data, .data, .sentinel, .sentinel, .pinned], laidTests := true, laidLooks := .later }
def HeadShortUptoCardSaid : Prop := Claim7.holds Tryz.pinned (.plain (OpenSpec.upto headShortSpec)) headShortUptoCard

/-- THE SECOND FORM's CARD OF 'ostiarylaw09.HeadPrints'. -/
def headPrintsUptoCard : Claim7 := { stood := { row := headPrintsUptoRow, standIns := [], harness := (true, "b47d2004a426dd2e90ee275ea1336e75a98bc8c47e423938c7dc3b76ae6f5fe3"), looks := true }, kinds := [], alts := [], laidByText := true, laidKinds := [.data, .data, .data, .data, .sentinel, .sentinel, .pinned], laidTests := true, laidLooks := .later }
def HeadPrintsUptoCardSaid : Prop := Claim7.holds Tryz.pinned (.plain (OpenSpec.upto headPrintsSpec)) headPrintsUptoCard
end Rows
end Go.Proofs.YtmflnffjhfejhaaGreatDoor
