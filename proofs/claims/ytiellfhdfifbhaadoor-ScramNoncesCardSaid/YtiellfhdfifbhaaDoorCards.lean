/-
  DERIVED. GIVEN WITH THE SEED: THE CARDS: each row of YtiellfhdfifbhaaDoorRows.lean that lists a variable, with what it lists TIED to the program's text (the seventh form; the later family's looks); each row that meets fmt, with fmt's text TOLD by the authors' own Lean function (tested against real Go, not proved from fmt's source: count such statements apart). THE CARD IS WHAT COUNTS. Prove the row's statement (the work); the ties are given (YtiellfhdfifbhaaDoorTie.lean); close each card by the builder's one call (the guide's Derived/Test/ToyasCard.lean, 'card_holds'). Laid BY PROGRAM, IN A SANDBOX (cutbox-door.mjs). By AI agents, Wed Nov 11 2026. No macro, syntax, notation, axiom, sorry.
-/
import Derived.Test.YtiellfhdfifbhaaDoorRows
import GoSem.ClaimSeven
namespace Go.Proofs.YtiellfhdfifbhaaDoor
namespace Rows

/-- THE TIED CARD OF 'ostiarylaw07.ScramNonces'. -/
def scramNoncesCard : Claim7 := { stood := { row := scramNoncesRow, standIns := [], harness := (true, "69b93230197e0e9b806bcbfffccdb8cec99dff074b32bb01775548ebe1d6665e"), looks := false }, kinds := [], alts := [], laidByText := true, laidKinds := [.data], laidTests := true, laidLooks := .later }
def ScramNoncesCardSaid : Prop := Claim7.holds Tryd.pinned (.plain (OpenSpec.ofChange scramNoncesSpec)) scramNoncesCard

/-- THE TIED CARD OF 'ostiarylaw07.ScramHalves'. -/
def scramHalvesCard : Claim7 := { stood := { row := scramHalvesRow, standIns := [], harness := (true, "69b93230197e0e9b806bcbfffccdb8cec99dff074b32bb01775548ebe1d6665e"), looks := false }, kinds := [], alts := [], laidByText := true, laidKinds := [.data, .data, .data, .data], laidTests := true, laidLooks := .later }
def ScramHalvesCardSaid : Prop := Claim7.holds Tryd.pinned (.plain (OpenSpec.ofChange scramHalvesSpec)) scramHalvesCard

/-- THE SECOND FORM's CARD OF 'ostiarylaw07.ScramNonces'. -/
def scramNoncesUptoCard : Claim7 := { stood := { row := scramNoncesUptoRow, standIns := [], harness := (true, "69b93230197e0e9b806bcbfffccdb8cec99dff074b32bb01775548ebe1d6665e"), looks := false }, kinds := [], alts := [], laidByText := true, laidKinds := [.data], laidTests := true, laidLooks := .later }
def ScramNoncesUptoCardSaid : Prop := Claim7.holds Tryd.pinned (.plain (OpenSpec.upto scramNoncesSpec)) scramNoncesUptoCard

/-- THE SECOND FORM's CARD OF 'ostiarylaw07.ScramHalves'. -/
def scramHalvesUptoCard : Claim7 := { stood := { row := scramHalvesUptoRow, standIns := [], harness := (true, "69b93230197e0e9b806bcbfffccdb8cec99dff074b32bb01775548ebe1d6665e"), looks := false }, kinds := [], alts := [], laidByText := true, laidKinds := [.data, .data, .data, .data], laidTests := true, laidLooks := .later }
def ScramHalvesUptoCardSaid : Prop := Claim7.holds Tryd.pinned (.plain (OpenSpec.upto scramHalvesSpec)) scramHalvesUptoCard
end Rows
end Go.Proofs.YtiellfhdfifbhaaDoor
