/-
  DERIVED. GIVEN WITH THE SEED: THE CARDS: each row of YtedglaejieblhaaGreatDoorRows.lean that lists a variable, with what it lists TIED to the program's text (the seventh form; the later family's looks); each row that meets fmt, with fmt's text TOLD by the authors' own Lean function (tested against real Go, not proved from fmt's source: count such statements apart). THE CARD IS WHAT COUNTS. Prove the row's statement (the work); the ties are given (YtedglaejieblhaaGreatDoorTie.lean); close each card by the builder's one call (the guide's Derived/Test/ToyasCard.lean, 'card_holds'). Laid BY PROGRAM, IN A SANDBOX (cutbox-door.mjs). By AI agents, Wed Nov 11 2026. No macro, syntax, notation, axiom, sorry.
-/
import Derived.Test.YtedglaejieblhaaGreatDoorRows
import GoSem.ClaimSeven
namespace Go.Proofs.YtedglaejieblhaaGreatDoor
namespace Rows

/-- THE TIED CARD OF 'laws.FnExactReadDeed'. -/
def fnExactReadDeedCard : Claim7 := { stood := { row := fnExactReadDeedRow, standIns := [], harness := (true, "6ac406b2143e5cbfe013d7c1abf5a4512643a9c49d369aa2983408d06b52a91b"), looks := true }, kinds := [], alts := [], laidByText := true, laidKinds := [.data, .data, .data, .data, .sentinel, .sentinel, .pinned], laidTests := true, laidLooks := .later }
def FnExactReadDeedCardSaid : Prop := Claim7.holds Tryz.pinned (.plain (OpenSpec.ofChange fnExactReadDeedSpec)) fnExactReadDeedCard

/-- THE TIED CARD OF 'laws.FnExactReadJournal'. -/
def fnExactReadJournalCard : Claim7 := { stood := { row := fnExactReadJournalRow, standIns := [], harness := (true, "6ac406b2143e5cbfe013d7c1abf5a4512643a9c49d369aa2983408d06b52a91b"), looks := true }, kinds := [], alts := [], laidByText := true, laidKinds := [.data, .data, .data, .data, .sentinel, .sentinel, .pinned], laidTests := true, laidLooks := .later }
def FnExactReadJournalCardSaid : Prop := Claim7.holds Tryz.pinned (.plain (OpenSpec.ofChange fnExactReadJournalSpec)) fnExactReadJournalCard

/-- THE TIED CARD OF 'laws.FnExactRecoverJournal'. -/
def fnExactRecoverJournalCard : Claim7 := { stood := { row := fnExactRecoverJournalRow, standIns := [], harness := (true, "6ac406b2143e5cbfe013d7c1abf5a4512643a9c49d369aa2983408d06b52a91b"), looks := true }, kinds := [], alts := [], laidByText := true, laidKinds := [.data, .data, .data, .data, .sentinel, .sentinel, .pinned], laidTests := true, laidLooks := .later }
def FnExactRecoverJournalCardSaid : Prop := Claim7.holds Tryz.pinned (.plain (OpenSpec.ofChange fnExactRecoverJournalSpec)) fnExactRecoverJournalCard

/-- THE TIED CARD OF 'laws.FnExactUndoLast'. -/
def fnExactUndoLastCard : Claim7 := { stood := { row := fnExactUndoLastRow, standIns := [], harness := (true, "6ac406b2143e5cbfe013d7c1abf5a4512643a9c49d369aa2983408d06b52a91b"), looks := true }, kinds := [], alts := [], laidByText := true, laidKinds := [.data, .data, .data, .data, .sentinel, .sentinel, .pinned], laidTests := true, laidLooks := .later }
def FnExactUndoLastCardSaid : Prop := Claim7.holds Tryz.pinned (.plain (OpenSpec.ofChange fnExactUndoLastSpec)) fnExactUndoLastCard

/-- THE TIED CARD OF 'laws.FnDeedTexts'. -/
def fnDeedTextsCard : Claim7 := { stood := { row := fnDeedTextsRow, standIns := [], harness := (true, "6ac406b2143e5cbfe013d7c1abf5a4512643a9c49d369aa2983408d06b52a91b"), looks := true }, kinds := [], alts := [], laidByText := true, laidKinds := [.data, .data, .data, .data, .sentinel, .sentinel, .pinned], laidTests := true, laidLooks := .later }
def FnDeedTextsCardSaid : Prop := Claim7.holds Tryz.pinned (.plain (OpenSpec.ofChange fnDeedTextsSpec)) fnDeedTextsCard

/-- THE TIED CARD OF 'laws.FnRecovered'. -/
def fnRecoveredCard : Claim7 := { stood := { row := fnRecoveredRow, standIns := [], harness := (true, "6ac406b2143e5cbfe013d7c1abf5a4512643a9c49d369aa2983408d06b52a91b"), looks := true }, kinds := [], alts := [], laidByText := true, laidKinds := [.data, .data, .data, .data, .sentinel, .sentinel, .pinned], laidTests := true, laidLooks := .later }
def FnRecoveredCardSaid : Prop := Claim7.holds Tryz.pinned (.plain (OpenSpec.ofChange fnRecoveredSpec)) fnRecoveredCard

/-- THE SECOND FORM's CARD OF 'laws.FnExactReadDeed'. -/
def fnExactReadDeedUptoCard : Claim7 := { stood := { row := fnExactReadDeedUptoRow, standIns := [], harness := (true, "6ac406b2143e5cbfe013d7c1abf5a4512643a9c49d369aa2983408d06b52a91b"), looks := true }, kinds := [], alts := [], laidByText := true, laidKinds := [.data, .data, .data, .data, .sentinel, .sentinel, .pinned], laidTests := true, laidLooks := .later }
def FnExactReadDeedUptoCardSaid : Prop := Claim7.holds Tryz.pinned (.plain (OpenSpec.upto fnExactReadDeedSpec)) fnExactReadDeedUptoCard

/-- THE SECOND FORM's CARD OF 'laws.FnExactReadJournal'. -/
def fnExactReadJournalUptoCard : Claim7 := { stood := { row := fnExactReadJournalUptoRow, standIns := [], harness := (true, "6ac406b2143e5cbfe013d7c1abf5a4512643a9c49d369aa2983408d06b52a91b"), looks := true }, kinds := [], alts := [], laidByText := true, laidKinds := [.data, .data, .data, .data, .sentinel, .sentinel, .pinned], laidTests := true, laidLooks := .later }
def FnExactReadJournalUptoCardSaid : Prop := Claim7.holds Tryz.pinned (.plain (OpenSpec.upto fnExactReadJournalSpec)) fnExactReadJournalUptoCard

/-- THE SECOND FORM's CARD OF 'laws.FnExactRecoverJournal'. -/
def fnExactRecoverJournalUptoCard : Claim7 := { stood := { row := fnExactRecoverJournalUptoRow, standIns := [], harness := (true, "6ac406b2143e5cbfe013d7c1abf5a4512643a9c49d369aa2983408d06b52a91b"), looks := true }, kinds := [], alts := [], laidByText := true, laidKinds := [.data, .data, .data, .data, .sentinel, .sentinel, .pinned], laidTests := true, laidLooks := .later }
def FnExactRecoverJournalUptoCardSaid : Prop := Claim7.holds Tryz.pinned (.plain (OpenSpec.upto fnExactRecoverJournalSpec)) fnExactRecoverJournalUptoCard

/-- THE SECOND FORM's CARD OF 'laws.FnExactUndoLast'. -/
def fnExactUndoLastUptoCard : Claim7 := { stood := { row := fnExactUndoLastUptoRow, standIns := [], harness := (true, "6ac406b2143e5cbfe013d7c1abf5a4512643a9c49d369aa2983408d06b52a91b"), looks := true }, kinds := [], alts := [], laidByText := true, laidKinds := [.data, .data, .data, .data, .sentinel, .sentinel, .pinned], laidTests := true, laidLooks := .later }
def FnExactUndoLastUptoCardSaid : Prop := Claim7.holds Tryz.pinned (.plain (OpenSpec.upto fnExactUndoLastSpec)) fnExactUndoLastUptoCard

/-- THE SECOND FORM's CARD OF 'laws.FnDeedTexts'. -/
def fnDeedTextsUptoCard : Claim7 := { stood := { row := fnDeedTextsUptoRow, standIns := [], harness := (true, "6ac406b2143e5cbfe013d7c1abf5a4512643a9c49d369aa2983408d06b52a91b"), looks := true }, kinds := [], alts := [], laidByText := true, laidKinds := [.data, .data, .data, .data, .sentinel, .sentinel, .pinned], laidTests := true, laidLooks := .later }
def FnDeedTextsUptoCardSaid : Prop := Claim7.holds Tryz.pinned (.plain (OpenSpec.upto fnDeedTextsSpec)) fnDeedTextsUptoCard

/-- THE SECOND FORM's CARD OF 'laws.FnRecovered'. -/
def fnRecoveredUptoCard : Claim7 := { stood := { row := fnRecoveredUptoRow, standIns := [], harness := (true, "6ac406b2143e5cbfe013d7c1abf5a4512643a9c49d369aa2983408d06b52a91b"), looks := true }, kinds := [], alts := [], laidByText := true, laidKinds := [.data, .data, .data, .data, .sentinel, .sentinel, .pinned], laidTests := true, laidLooks := .later }
def FnRecoveredUptoCardSaid : Prop := Claim7.holds Tryz.pinned (.plain (OpenSpec.upto fnRecoveredSpec)) fnRecoveredUptoCard
end Rows
end Go.Proofs.YtedglaejieblhaaGreatDoor
