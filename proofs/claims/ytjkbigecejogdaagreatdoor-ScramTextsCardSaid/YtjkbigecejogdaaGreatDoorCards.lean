/-
  DERIVED. GIVEN WITH THE SEED: THE CARDS: each row of YtjkbigecejogdaaGreatDoorRows.lean that lists a variable, with what it lists TIED to the program's text (the seventh form; the later family's looks); each row that meets fmt, with fmt's text TOLD by the authors' own Lean function (tested against real Go, not proved from fmt's source: count such statements apart). THE CARD IS WHAT COUNTS. Prove the row's statement (the work); the ties are given (YtjkbigecejogdaaGreatDoorTie.lean); close each card by the builder's one call (the guide's Derived/Test/ToyasCard.lean, 'card_holds'). Laid BY PROGRAM, IN A SANDBOX (cutbox-door.mjs). By AI agents, Wed Nov 11 2026. No macro, syntax, notation, axiom, sorry.
-/
import Derived.Test.YtjkbigecejogdaaGreatDoorRows
import GoSem.ClaimSeven
namespace Go.Proofs.YtjkbigecejogdaaGreatDoor
namespace Rows

/-- THE TIED CARD OF 'ostiarylaw07.ScramReads'. -/
def scramReadsCard : Claim7 := { stood := { row := scramReadsRow, standIns := [], harness := (true, "a0be5d75343d334f5fb6e8c7f285a6cf1c5f681779500716eee53483dd1592fb"), looks := true }, kinds := [], alts := [], laidByText := true, laidKinds := [.data, .data, .data, .sentinel, .sentinel, .data], laidTests := true, laidLooks := .later }
def ScramReadsCardSaid : Prop := Claim7.holds Tryz.pinned (.plain (OpenSpec.ofChange scramReadsSpec)) scramReadsCard

/-- THE TIED CARD OF 'ostiarylaw07.ScramTexts'. -/
def scramTextsCard : Claim7 := { stood := { row := scramTextsRow, standIns := [], harness := (true, "a0be5d75343d334f5fb6e8c7f285a6cf1c5f681779500716eee53483dd1592fb"), looks := true }, kinds := [], alts := [], laidByText := true, laidKinds := [.data, .data, .data, .sentinel, .sentinel, .data], laidTests := true, laidLooks := .later }
def ScramTextsCardSaid : Prop := Claim7.holds Tryz.pinned (.plain (OpenSpec.ofChange scramTextsSpec)) scramTextsCard

/-- THE TIED CARD OF 'ostiarylaw07.ScramOne'. -/
def scramOneCard : Claim7 := { stood := { row := scramOneRow, standIns := [], harness := (true, "a0be5d75343d334f5fb6e8c7f285a6cf1c5f681779500716eee53483dd1592fb"), looks := true }, kinds := [], alts := [], laidByText := true, laidKinds := [.data, .data, .data, .sentinel, .sentinel, .data], laidTests := true, laidLooks := .later }
def ScramOneCardSaid : Prop := Claim7.holds Tryz.pinned (.plain (OpenSpec.ofChange scramOneSpec)) scramOneCard

/-- THE SECOND FORM's CARD OF 'ostiarylaw07.ScramReads'. -/
def scramReadsUptoCard : Claim7 := { stood := { row := scramReadsUptoRow, standIns := [], harness := (true, "a0be5d75343d334f5fb6e8c7f285a6cf1c5f681779500716eee53483dd1592fb"), looks := true }, kinds := [], alts := [], laidByText := true, laidKinds := [.data, .data, .data, .sentinel, .sentinel, .data], laidTests := true, laidLooks := .later }
def ScramReadsUptoCardSaid : Prop := Claim7.holds Tryz.pinned (.plain (OpenSpec.upto scramReadsSpec)) scramReadsUptoCard

/-- THE SECOND FORM's CARD OF 'ostiarylaw07.ScramTexts'. -/
def scramTextsUptoCard : Claim7 := { stood := { row := scramTextsUptoRow, standIns := [], harness := (true, "a0be5d75343d334f5fb6e8c7f285a6cf1c5f681779500716eee53483dd1592fb"), looks := true }, kinds := [], alts := [], laidByText := true, laidKinds := [.data, .data, .data, .sentinel, .sentinel, .data], laidTests := true, laidLooks := .later }
def ScramTextsUptoCardSaid : Prop := Claim7.holds Tryz.pinned (.plain (OpenSpec.upto scramTextsSpec)) scramTextsUptoCard

/-- THE SECOND FORM's CARD OF 'ostiarylaw07.ScramOne'. -/
def scramOneUptoCard : Claim7 := { stood := { row := scramOneUptoRow, standIns := [], harness := (true, "a0be5d75343d334f5fb6e8c7f285a6cf1c5f681779500716eee53483dd1592fb"), looks := true }, kinds := [], alts := [], laidByText := true, laidKinds := [.data, .data, .data, .sentinel, .sentinel, .data], laidTests := true, laidLooks := .later }
def ScramOneUptoCardSaid : Prop := Claim7.holds Tryz.pinned (.plain (OpenSpec.upto scramOneSpec)) scramOneUptoCard
end Rows
end Go.Proofs.YtjkbigecejogdaaGreatDoor
