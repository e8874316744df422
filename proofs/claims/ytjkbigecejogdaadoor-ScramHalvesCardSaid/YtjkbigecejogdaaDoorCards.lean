/-
  DERIVED. GIVEN WITH THE SEED: THE CARDS: each row of YtjkbigecejogdaaDoorRows.lean that lists a variable, with what it lists TIED to the program's text (the seventh form; the later family's looks); each row that meets fmt, with fmt's text TOLD by the authors' own Lean function (tested against real Go, not proved from fmt's source: count such statements apart). THE CARD IS WHAT COUNTS. Prove the row's statement (the work); the ties are given (YtjkbigecejogdaaDoorTie.lean); close each card by the builder's one call (the guide's Derived/Test/ToyasCard.lean, 'card_holds'). Laid BY PROGRAM, IN A SANDBOX (cutbox-door.mjs). By AI agents, Wed Nov 11 2026. No macro, syntax, notation, axiom, sorry.
-/
import Derived.Test.YtjkbigecejogdaaDoorRows
import GoSem.ClaimSeven
namespace Go.Proofs.YtjkbigecejogdaaDoor
namespace Rows

/-- THE TIED CARD OF 'ostiarylaw07.ScramHalves'. -/
def scramHalvesCard : Claim7 := { stood := { row := scramHalvesRow, standIns := [], harness := (true, "355026d0f8d3c0bd0bbf75f47ed63ffde770c8569d1fc42f844b8bcff18a7267"), looks := false }, kinds := [], alts := [], laidByText := true, laidKinds := [.data, .data, .data, .data], laidTests := true, laidLooks := .later }
def ScramHalvesCardSaid : Prop := Claim7.holds Tryd.pinned (.plain (OpenSpec.ofChange scramHalvesSpec)) scramHalvesCard

/-- THE SECOND FORM's CARD OF 'ostiarylaw07.ScramHalves'. -/
def scramHalvesUptoCard : Claim7 := { stood := { row := scramHalvesUptoRow, standIns := [], harness := (true, "355026d0f8d3c0bd0bbf75f47ed63ffde770c8569d1fc42f844b8bcff18a7267"), looks := false }, kinds := [], alts := [], laidByText := true, laidKinds := [.data, .data, .data, .data], laidTests := true, laidLooks := .later }
def ScramHalvesUptoCardSaid : Prop := Claim7.holds Tryd.pinned (.plain (OpenSpec.upto scramHalvesSpec)) scramHalvesUptoCard
end Rows
end Go.Proofs.YtjkbigecejogdaaDoor
