/-
  DERIVED. GIVEN WITH THE SEED: THE CARDS: each row of YtjbobblnicnhnaaDoorRows.lean that lists a variable, with what it lists TIED to the program's text (the seventh form; the later family's looks); each row that meets fmt, with fmt's text TOLD by the authors' own Lean function (tested against real Go, not proved from fmt's source: count such statements apart). THE CARD IS WHAT COUNTS. Prove the row's statement (the work); the ties are given (YtjbobblnicnhnaaDoorTie.lean); close each card by the builder's one call (the guide's Derived/Test/ToyasCard.lean, 'card_holds'). Laid BY PROGRAM, IN A SANDBOX (cutbox-door.mjs). By AI agents, Wed Nov 11 2026. No macro, syntax, notation, axiom, sorry.
-/
import Derived.Test.YtjbobblnicnhnaaDoorRows
import GoSem.ClaimSeven
namespace Go.Proofs.YtjbobblnicnhnaaDoor
namespace Rows

/-- THE TIED CARD OF 'ostiarylaw16.RuleMatches'. -/
def ruleMatchesCard : Claim7 := { stood := { row := ruleMatchesRow, standIns := [], harness := (true, "2ac76779f37c13c59b8cbfd80b9b46e5239ca7e45c2d8205615806c93bb4639f"), looks := true }, kinds := [], alts := [], laidByText := true, laidKinds := [.data, .data, .data, .data, .sentinel, .sentinel, .pinned], laidTests := true, laidLooks := .later }
def RuleMatchesCardSaid : Prop := Claim7.holds Tryd.pinned (.plain (OpenSpec.ofChange ruleMatchesSpec)) ruleMatchesCard

/-- THE TIED CARD OF 'ostiarylaw16.RuleCovers'. -/
def ruleCoversCard : Claim7 := { stood := { row := ruleCoversRow, standIns := [], harness := (true, "2ac76779f37c13c59b8cbfd80b9b46e5239ca7e45c2d8205615806c93bb4639f"), looks := true }, kinds := [], alts := [], laidByText := true, laidKinds := [.data, .data, .data, .data, .sentinel, .sentinel, .pinned], laidTests := true, laidLooks := .later }
def RuleCoversCardSaid : Prop := Claim7.holds Tryd.pinned (.plain (OpenSpec.ofChange ruleCoversSpec)) ruleCoversCard

/-- THE TIED CARD OF 'ostiarylaw16.RuleSays'. -/
def ruleSaysCard : Claim7 := { stood := { row := ruleSaysRow, standIns := [], harness := (true, "2ac76779f37c13c59b8cbfd80b9b46e5239ca7e45c2d8205615806c93bb4639f"), looks := true }, kinds := [], alts := [], laidByText := true, laidKinds := [.data, .data, .data, .data, .sentinel, .sentinel, .pinned], laidTests := true, laidLooks := .later }
def RuleSaysCardSaid : Prop := Claim7.holds Tryd.pinned (.plain (OpenSpec.ofChange ruleSaysSpec)) ruleSaysCard

/-- THE TIED CARD OF 'ostiarylaw16.RuleIdles'. -/
def ruleIdlesCard : Claim7 := { stood := { row := ruleIdlesRow, standIns := [], harness := (true, "2ac76779f37c13c59b8cbfd80b9b46e5239ca7e45c2d8205615806c93bb4639f"), looks := true }, kinds := [], alts := [], laidByText := true, laidKinds := [.data, .data, .data, .data, .sentinel, .sentinel, .pinned], laidTests := true, laidLooks := .later }
def RuleIdlesCardSaid : Prop := Claim7.holds Tryd.pinned (.plain (OpenSpec.ofChange ruleIdlesSpec)) ruleIdlesCard

/-- THE TIED CARD OF 'ostiarylaw16.RuleReads'. -/
def ruleReadsCard : Claim7 := { stood := { row := ruleReadsRow, standIns := [], harness := (true, "2ac76779f37c13c59b8cbfd80b9b46e5239ca7e45c2d8205615806c93bb4639f"), looks := true }, kinds := [], alts := [], laidByText := true, laidKinds := [.data, .data, .data, .data, .sentinel, .sentinel, .pinned], laidTests := true, laidLooks := .later }
def RuleReadsCardSaid : Prop := Claim7.holds Tryd.pinned (.plain (OpenSpec.ofChange ruleReadsSpec)) ruleReadsCard

/-- THE TIED CARD OF 'ostiarylaw16.RuleTexts'. -/
def ruleTextsCard : Claim7 := { stood := { row := ruleTextsRow, standIns := [], harness := (true, "2ac76779f37c13c59b8cbfd80b9b46e5239ca7e45c2d8205615806c93bb4639f"), looks := true }, kinds := [], alts := [], laidByText := true, laidKinds := [.data, .data, .data, .data, .sentinel, .sentinel, .pinned], laidTests := true, laidLooks := .later }
def RuleTextsCardSaid : Prop := Claim7.holds Tryd.pinned (.plain (OpenSpec.ofChange ruleTextsSpec)) ruleTextsCard

/-- THE SECOND FORM's CARD OF 'ostiarylaw16.RuleMatches'. -/
def ruleMatchesUptoCard : Claim7 := { stood := { row := ruleMatchesUptoRow, standIns := [], harness := (true, "2ac76779f37c13c59b8cbfd80b9b46e5239ca7e45c2d8205615806c93bb4639f"), looks := true }, kinds := [], alts := [], laidByText := true, laidKinds := [.data, .data, .data, .data, .sentinel, .sentinel, .pinned], laidTests := true, laidLooks := .later }
def RuleMatchesUptoCardSaid : Prop := Claim7.holds Tryd.pinned (.plain (OpenSpec.upto ruleMatchesSpec)) ruleMatchesUptoCard

/-- THE SECOND FORM's CARD OF 'ostiarylaw16.RuleCovers'. -/
def ruleCoversUptoCard : Claim7 := { stood := { row := ruleCoversUptoRow, standIns := [], harness := (true, "2ac76779f37c13c59b8cbfd80b9b46e5239ca7e45c2d8205615806c93bb4639f"), looks := true }, kinds := [], alts := [], laidByText := true, laidKinds := [.data, .data, .data, .data, .sentinel, .sentinel, .pinned], laidTests := true, laidLooks := .later }
def RuleCoversUptoCardSaid : Prop := Claim7.holds Tryd.pinned (.plain (OpenSpec.upto ruleCoversSpec)) ruleCoversUptoCard

/-- THE SECOND FORM's CARD OF 'ostiarylaw16.RuleSays'. -/
def ruleSaysUptoCard : Claim7 := { stood := { row := ruleSaysUptoRow, standIns := [], harness := (true, "2ac76779f37c13c59b8cbfd80b9b46e5239ca7e45c2d8205615806c93bb4639f"), looks := true }, kinds := [], alts := [], laidByText := true, laidKinds := [.data, .data, .data, .data, .sentinel, .sentinel, .pinned], laidTests := true, laidLooks := .later }
def RuleSaysUptoCardSaid : Prop := Claim7.holds Tryd.pinned (.plain (OpenSpec.upto ruleSaysSpec)) ruleSaysUptoCard

/-- THE SECOND FORM's CARD OF 'ostiarylaw16.RuleIdles'. -/
def ruleIdlesUptoCard : Claim7 := { stood := { row := ruleIdlesUptoRow, standIns := [], harness := (true, "2ac76779f37c13c59b8cbfd80b9b46e5239ca7e45c2d8205615806c93bb4639f"), looks := true }, kinds := [], alts := [], laidByText := true, laidKinds := [.data, .data, .data, .data, .sentinel, .sentinel, .pinned], laidTests := true, laidLooks := .later }
def RuleIdlesUptoCardSaid : Prop := Claim7.holds Tryd.pinned (.plain (OpenSpec.upto ruleIdlesSpec)) ruleIdlesUptoCard

/-- THE SECOND FORM's CARD OF 'ostiarylaw16.RuleReads'. -/
def ruleReadsUptoCard : Claim7 := { stood := { row := ruleReadsUptoRow, standIns := [], harness := (true, "2ac76779f37c13c59b8cbfd80b9b46e5239ca7e45c2d8205615806c93bb4639f"), looks := true }, kinds := [], alts := [], laidByText := true, laidKinds := [.data, .data, .data, .data, .sentinel, .sentinel, .pinned], laidTests := true, laidLooks := .later }
def RuleReadsUptoCardSaid : Prop := Claim7.holds Tryd.pinned (.plain (OpenSpec.upto ruleReadsSpec)) ruleReadsUptoCard

/-- THE SECOND FORM's CARD OF 'ostiarylaw16.RuleTexts'. -/
def ruleTextsUptoCard : Claim7 := { stood := { row := ruleTextsUptoRow, standIns := [], harness := (true, "2ac76779f37c13c59b8cbfd80b9b46e5239ca7e45c2d8205615806c93bb4639f"), looks := true }, kinds := [], alts := [], laidByText := true, laidKinds := [.data, .data, .data, .data, .sentinel, .sentinel, .pinned], laidTests := true, laidLooks := .later }
def RuleTextsUptoCardSaid : Prop := Claim7.holds Tryd.pinned (.plain (OpenSpec.upto ruleTextsSpec)) ruleTextsUptoCard
end Rows
end Go.Proofs.YtjbobblnicnhnaaDoor
