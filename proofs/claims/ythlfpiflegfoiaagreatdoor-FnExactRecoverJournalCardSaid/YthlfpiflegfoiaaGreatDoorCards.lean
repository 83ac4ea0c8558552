/-
  DERIVED. GIVEN WITH THE SEED: THE CARDS: each row of YthlfpiflegfoiaaGreatDoorRows.lean that lists a variable, with what it lists TIED to the program's text (the seventh form; the later family's looks); each row that meets fmt, with fmt's text TOLD by the authors' own Lean function (tested against real Go, not proved from fmt's source: count such statements apart). THE CARD IS WHAT COUNTS. Prove the row's statement (the work); the ties are given (YthlfpiflegfoiaaGreatDoorTie.lean); close each card by the builder's one call (the guide's Derived/Test/ToyasCard.lean, 'card_holds'). Laid BY PROGRAM, IN A SANDBOX (cutbox-door.mjs). By AI agents, Wed Nov 11 2026. No macro, syntax, notation, axiom, sorry.
-/
import Derived.Test.YthlfpiflegfoiaaGreatDoorRows
import GoSem.ClaimSeven
namespace Go.Proofs.YthlfpiflegfoiaaGreatDoor
namespace Rows

/-- THE TIED CARD OF 'laws.FnExactUndoLast'. -/
def fnExactUndoLastCard : Claim7 := { stood := { row := fnExactUndoLastRow, standIns := [], harness := (true, "e714c22765371ea56a3f2f19aebfa9645dc2ea3b439636c49e015aa016c4a743"), looks := true }, kinds := [], alts := [], laidByText := true, laidKinds := [.data, .data, .data, .data, .sentinel, .sentinel, .pinned], laidTests := true, laidLooks := .later }
def FnExactUndoLastCardSaid : Prop := Claim7.holds Tryz.pinned (.plain (OpenSpec.ofChange fnExactUndoLastSpec)) fnExactUndoLastCard

/-- THE TIED CARD OF 'laws.FnExactRecoverJournal'. -/
def fnExactRecoverJournalCard : Claim7 := { stood := { row := fnExactRecoverJournalRow, standIns := [], harness := (true, "e714c22765371ea56a3f2f19aebfa9645dc2ea3b439636c49e015aa016c4a743"), looks := true }, kinds := [], alts := [], laidByText := true, laidKinds := [.data, .data, .data, .data, .sentinel, .sentinel, .pinned], laidTests := true, laidLooks := .later }
def FnExactRecoverJournalCardSaid : Prop := Claim7.holds Tryz.pinned (.plain (OpenSpec.ofChange fnExactRecoverJournalSpec)) fnExactRecoverJournalCard

/-- THE TIED CARD OF 'laws.FnExactReadJournal'. -/
def fnExactReadJournalCard : Claim7 := { stood := { row := fnExactReadJournalRow, standIns := [], harness := (true, "e714c22765371ea56a3f2f19aebfa9645dc2ea3b439636c49e015aa016c4a743"), looks := true }, kinds := [], alts := [], laidByText := true, laidKinds := [.data, .data, .data, .data, .sentinel, .sentinel, .pinned], laidTests := true, laidLooks := .later }
def FnExactReadJournalCardSaid : Prop := Claim7.holds Tryz.pinned (.plain (OpenSpec.ofChange fnExactReadJournalSpec)) fnExactReadJournalCard

/-- THE SECOND FORM's CARD OF 'laws.FnExactUndoLast'. -/
def fnExactUndoLastUptoCard : Claim7 := { stood := { row := fnExactUndoLastUptoRow, standIns := [], harness := (true, "e714c22765371ea56a3f2f19aebfa9645dc2ea3b439636c49e015aa016c4a743"), looks := true }, kinds := [], alts := [], laidByText := true, laidKinds := [.data, .data, .data, .data, .sentinel, .sentinel, .pinned], laidTests := true, laidLooks := .later }
def FnExactUndoLastUptoCardSaid : Prop := Claim7.holds Tryz.pinned (.plain (OpenSpec.upto fnExactUndoLastSpec)) fnExactUndoLastUptoCard

/-- THE SECOND FORM's CARD OF 'laws.FnExactRecoverJournal'. -/
def fnExactRecoverJournalUptoCard : Claim7 := { stood := { row := fnExactRecoverJournalUptoRow, standIns := [], harness := (true, "e714c22765371ea56a3f2f19aebfa9645dc2ea3b439636c49e015aa016c4a743"), looks := true }, kinds := [], alts := [], laidByText := true, laidKinds := [.data, .data, .data, .data, .sentinel, .sentinel, .pinned], laidTests := true, laidLooks := .later }
def FnExactRecoverJournalUptoCardSaid : Prop := Claim7.holds Tryz.pinned (.plain (OpenSpec.upto fnExactRecoverJournalSpec)) fnExactRecoverJournalUptoCard

/-- THE SECOND FORM's CARD OF 'laws.FnExactReadJournal'. -/
def fnExactReadJournalUptoCard : Claim7 := { stood := { row := fnExactReadJournalUptoRow, standIns := [], harness := (true, "e714c22765371ea56a3f2f19aebfa9645dc2ea3b439636c49e015aa016c4a743"), looks := true }, kinds := [], alts := [], laidByText := true, laidKinds := [.data, .data, .data, .data, .sentinel, .sentinel, .pinned], laidTests := true, laidLooks := .later }
def FnExactReadJournalUptoCardSaid : Prop := Claim7.holds Tryz.pinned (.plain (OpenSpec.upto fnExactReadJournalSpec)) fnExactReadJournalUptoCard
end Rows
end Go.Proofs.YthlfpiflegfoiaaGreatDoor
