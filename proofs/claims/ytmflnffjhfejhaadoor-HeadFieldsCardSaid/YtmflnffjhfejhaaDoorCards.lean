/-
  DERIVED. GIVEN WITH THE SEED: THE CARDS: each row of YtmflnffjhfejhaaDoorRows.lean that lists a variable, with what it lists TIED to the program's text (the seventh form; the later family's looks); each row that meets fmt, with fmt's text TOLD by the authors' own Lean function (tested against real Go, not proved from fmt's source: count such statements apart). THE CARD IS WHAT COUNTS. Prove the row's statement (the work); the ties are given (YtmflnffjhfejhaaDoorTie.lean); close each card by the builder's one call (the guide's Derived/Test/ToyasCard.lean, 'card_holds'). Laid BY PROGRAM, IN A SANDBOX (cutbox-door.mjs). By AI agents, Wed Nov 11 2026. No macro, syntax, notation, axiom, sorry.
-/
import Derived.Test.YtmflnffjhfejhaaDoorRows
import GoSem.ClaimSeven
namespace Go.Proofs.YtmflnffjhfejhaaDoor
namespace Rows

/-- THE TIED CARD OF 'ostiarylaw09.HeadSplits'. -/
def headSplitsCard : Claim7 := { stood := { row := headSplitsRow, standIns := [], harness := (true, "dd6ddd91832cb0ad5c557bc6a68b959e3e6f70b587a8ec634188c40d27fb9e1f"), looks := true }, kinds := [], alts := [], laidByText := true, laidKinds := [.data, .data, .data, .data, .sentinel, .sentinel, .pinned], laidTests := true, laidLooks := .later }
def HeadSplitsCardSaid : Prop := Claim7.holds Tryd.pinned (.plain (OpenSpec.ofChange headSplitsSpec)) headSplitsCard

/-- THE TIED CARD OF 'ostiarylaw09.HeadLong'. -/
def headLongCard : Claim7 := { stood := { row := headLongRow, standIns := [], harness := (true, "dd6ddd91832cb0ad5c557bc6a68b959e3e6f70b587a8ec634188c40d27fb9e1f"), looks := true }, kinds := [], alts := [], laidByText := true, laidKinds := [.data, .data, .data, .data, .sentinel, .sentinel, .pinned], laidTests := true, laidLooks := .later }
def HeadLongCardSaid : Prop := Claim7.holds Tryd.pinned (.plain (OpenSpec.ofChange headLongSpec)) headLongCard

/-- THE TIED CARD OF 'ostiarylaw09.HeadLines'. -/
def headLinesCard : Claim7 := { stood := { row := headLinesRow, standIns := [], harness := (true, "dd6ddd91832cb0ad5c557bc6a68b959e3e6f70b587a8ec634188c40d27fb9e1f"), looks := true }, kinds := [], alts := [], laidByText := true, laidKinds := [.data, .data, .data, .data, .sentinel, .sentinel, .pinned], laidTests := true, laidLooks := .later }
def HeadLinesCardSaid : Prop := Claim7.holds Tryd.pinned (.plain (OpenSpec.ofChange headLinesSpec)) headLinesCard

/-- THE TIED CARD OF 'ostiarylaw09.HeadFields'. -/
def headFieldsCard : Claim7 := { stood := { row := headFieldsRow, standIns := [], harness := (true, "dd6ddd91832cb0ad5c557bc6a68b959e3e6f70b587a8ec634188c40d27fb9e1f"), looks := true }, kinds := [], alts := [], laidByText := true, laidKinds := [.data, .data, .data, .data, .sentinel, .sentinel, .pinned], laidTests := true, laidLooks := .later }
def HeadFieldsCardSaid : Prop := Claim7.holds Tryd.pinned (.plain (OpenSpec.ofChange headFieldsSpec)) headFieldsCard

/-- THE SECOND FORM's CARD OF 'ostiarylaw09.HeadSplits'. -/
def headSplitsUptoCard : Claim7 := { stood := { row := headSplitsUptoRow, standIns := [], harness := (true, "dd6ddd91832cb0ad5c557bc6a68b959e3e6f70b587a8ec634188c40d27fb9e1f"), looks := true }, kinds := [], alts := [], laidByText := true, laidKinds := [.data, .data, .data, .data, .sentinel, .sentinel, .pinned], laidTests := true, laidLooks := .later }
def HeadSplitsUptoCardSaid : Prop := Claim7.holds Tryd.pinned (.plain (OpenSpec.upto headSplitsSpec)) headSplitsUptoCard

/-- THE SECOND FORM's CARD OF 'ostiarylaw09.HeadLong'. -/
def headLongUptoCard : Claim7 := { stood := { row := headLongUptoRow, standIns := [], harness := (true, "dd6ddd91832cb0ad5c557bc6a68b959e3e6f70b587a8ec634188c40d27fb9e1f"), looks := true }, kinds := [], alts := [], laidByText := true, laidKinds := [.data, .data, .data, .data, .sentinel, .sentinel, .pinned], laidTests := true, laidLooks := .later }
def HeadLongUptoCardSaid : Prop := Claim7.holds Tryd.pinned (.plain (OpenSpec.upto headLongSpec)) headLongUptoCard

/-- THE SECOND FORM's CARD OF 'ostiarylaw09.HeadLines'. -/
def headLinesUptoCard : Claim7 := { stood := { row := headLinesUptoRow, standIns := [], harness := (true, "dd6ddd91832cb0ad5c557bc6a68b959e3e6f70b587a8ec634188c40d27fb9e1f"), looks := true }, kinds := [], alts := [], laidByText := true, laidKinds := [.data, .data, .data, .data, .sentinel, .sentinel, .pinned], laidTests := true, laidLooks := .later }
def HeadLinesUptoCardSaid : Prop := Claim7.holds Tryd.pinned (.plain (OpenSpec.upto headLinesSpec)) headLinesUptoCard

/-- THE SECOND FORM's CARD OF 'ostiarylaw09.HeadFields'. -/
def headFieldsUptoCard : Claim7 := { stood := { row := headFieldsUptoRow, standIns := [], harness := (true, "dd6ddd91832cb0ad5c557bc6a68b959e3e6f70b587a8ec634188c40d27fb9e1f"), looks := true }, kinds := [], alts := [], laidByText := true, laidKinds := [.data, .data, .data, .data, .sentinel, .sentinel, .pinned], laidTests := true, laidLooks := .later }
def HeadFieldsUptoCardSaid : Prop := Claim7.holds Tryd.pinned (.plain (OpenSpec.upto headFieldsSpec)) headFieldsUptoCard
end Rows
end Go.Proofs.YtmflnffjhfejhaaDoor
