/-
  DERIVED. GIVEN WITH THE SEED: THE CARDS: each row of YteickmohloglhaaGreatDoorRows.lean that lists a variable, with what it lists TIED to the program's text (the seventh form; the later family's looks); each row that meets fmt, with fmt's text TOLD by the authors' own Lean function (tested against real Go, not proved from fmt's source: count such statements apart). THE CARD IS WHAT COUNTS. Prove the row's statement (the work); the ties are given (YteickmohloglhaaGreatDoorTie.lean); close each card by the builder's one call (the guide's Derived/Test/ToyasCard.lean, 'card_holds'). Laid BY PROGRAM, IN A SANDBOX (cutbox-door.mjs). By AI agents, Wed Nov 11 2026. No macro, syntax, notation, axiom, sorry.
-/
import Derived.Test.YteickmohloglhaaGreatDoorRows
import GoSem.ClaimSeven
namespace Go.Proofs.YteickmohloglhaaGreatDoor
namespace Rows

/-- THE TIED CARD OF 'ostiarylaw07.ScramLong'. -/
def scramLongCard : Claim7 := { stood := { row := scramLongRow, standIns := [], harness := (true, "1daf1650298fd77387a1f46044f8ca6f10a67c3a21756f17fd4b4e417540c566"), looks := true }, kinds := [], alts := [], laidByText := true, laidKinds := [.data, .data, .data, .sentinel, .sentinel, .data], laidTests := true, laidLooks := .later }
def ScramLongCardSaid : Prop := Claim7.holds Tryz.pinned (.plain (OpenSpec.ofChange scramLongSpec)) scramLongCard

/-- THE SECOND FORM's CARD OF 'ostiarylaw07.ScramLong'. -/
def scramLongUptoCard : Claim7 := { stood := { row := scramLongUptoRow, standIns := [], harness := (true, "1daf1650298fd77387a1f46044f8ca6f10a67c3a21756f17fd4b4e417540c566"), looks := true }, kinds := [], alts := [], laidByText := true, laidKinds := [.data, .data, .data, .sentinel, .sentinel, .data], laidTests := true, laidLooks := .later }
def ScramLongUptoCardSaid : Prop := Claim7.holds Tryz.pinned (.plain (OpenSpec.upto scramLongSpec)) scramLongUptoCard
end Rows
end Go.Proofs.YteickmohloglhaaGreatDoor
