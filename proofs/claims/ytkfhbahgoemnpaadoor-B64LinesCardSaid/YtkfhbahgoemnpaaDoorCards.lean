/-
  DERIVED. GIVEN WITH THE SEED: THE CARDS: each row of YtkfhbahgoemnpaaDoorRows.lean that lists a variable, with what it lists TIED to the program's text (the seventh form; the later family's looks); each row that meets fmt, with fmt's text TOLD by the authors' own Lean function (tested against real Go, not proved from fmt's source: count such statements apart). THE CARD IS WHAT COUNTS. Prove the row's statement (the work); the ties are given (YtkfhbahgoemnpaaDoorTie.lean); close each card by the builder's one call (the guide's Derived/Test/ToyasCard.lean, 'card_holds'). Laid BY PROGRAM, IN A SANDBOX (cutbox-door.mjs). By AI agents, Wed Nov 11 2026. No macro, syntax, notation, axiom, sorry.
-/
import Derived.Test.YtkfhbahgoemnpaaDoorRows
import GoSem.ClaimSeven
namespace Go.Proofs.YtkfhbahgoemnpaaDoor
namespace Rows

/-- THE TIED CARD OF 'ostiarylaw03.B64Lines'. -/
def b64LinesCard : Claim7 := { stood := { row := b64LinesRow, standIns := [], harness := (true, "e36f1f14a455bacd53302c7b19bb267554b83c734d44e50e55b562451d92feae"), looks := false }, kinds := [], alts := [], laidByText := true, laidKinds := [.data, .pinned], laidTests := true, laidLooks := .later }
def B64LinesCardSaid : Prop := Claim7.holds Tryd.pinned (.plain (OpenSpec.ofChange b64LinesSpec)) b64LinesCard

/-- THE SECOND FORM's CARD OF 'ostiarylaw03.B64Lines'. -/
def b64LinesUptoCard : Claim7 := { stood := { row := b64LinesUptoRow, standIns := [], harness := (true, "e36f1f14a455bacd53302c7b19bb267554b83c734d44e50e55b562451d92feae"), looks := false }, kinds := [], alts := [], laidByText := true, laidKinds := [.data, .pinned], laidTests := true, laidLooks := .later }
def B64LinesUptoCardSaid : Prop := Claim7.holds Tryd.pinned (.plain (OpenSpec.upto b64LinesSpec)) b64LinesUptoCard
end Rows
end Go.Proofs.YtkfhbahgoemnpaaDoor
