/-
  DERIVED. GIVEN WITH THE SEED: THE CARDS: each row of YtbcggaldkihcaaaGreatDoorRows.lean that lists a variable, with what it lists TIED to the program's text (the seventh form; the later family's looks); each row that meets fmt, with fmt's text TOLD by the authors' own Lean function (tested against real Go, not proved from fmt's source: count such statements apart). THE CARD IS WHAT COUNTS. Prove the row's statement (the work); the ties are given (YtbcggaldkihcaaaGreatDoorTie.lean); close each card by the builder's one call (the guide's Derived/Test/ToyasCard.lean, 'card_holds'). Laid BY PROGRAM, IN A SANDBOX (cutbox-door.mjs). By AI agents, Wed Nov 11 2026. No macro, syntax, notation, axiom, sorry.
-/
import Derived.Test.YtbcggaldkihcaaaGreatDoorRows
import GoSem.ClaimSeven
namespace Go.Proofs.YtbcggaldkihcaaaGreatDoor
namespace Rows

/-- THE TIED CARD OF 'laws.FnDeedTexts'. -/
def fnDeedTextsCard : Claim7 := { stood := { row := fnDeedTextsRow, standIns := [], harness := (true, "3b919395cf966f2426ba1e6789a8b6ab099790ea33c5158f3d8a1fd1b2b710e0"), looks := true }, kinds := [], alts := [], laidByText := true, laidKinds := [.data, .data, .data, .data, .sentinel, .sentinel, .pinned], laidTests := true, laidLooks := .later }
def FnDeedTextsCardSaid : Prop := Claim7.holds Tryz.pinned (.plain (OpenSpec.ofChange fnDeedTextsSpec)) fnDeedTextsCard

/-- THE TIED CARD OF 'laws.FnRecovered'. -/
def fnRecoveredCard : Claim7 := { stood := { row := fnRecoveredRow, standIns := [], harness := (true, "3b919395cf966f2426ba1e6789a8b6ab099790ea33c5158f3d8a1fd1b2b710e0"), looks := true }, kinds := [], alts := [], laidByText := true, laidKinds := [.data, .data, .data, .data, .sentinel, .sentinel, .pinned], laidTests := true, laidLooks := .later }
def FnRecoveredCardSaid : Prop := Claim7.holds Tryz.pinned (.plain (OpenSpec.ofChange fnRecoveredSpec)) fnRecoveredCard

/-- THE SECOND FORM's CARD OF 'laws.FnDeedTexts'. -/
def fnDeedTextsUptoCard : Claim7 := { stood := { row := fnDeedTextsUptoRow, standIns := [], harness := (true, "3b919395cf966f2426ba1e6789a8b6ab099790ea33c5158f3d8a1fd1b2b710e0"), looks := true }, kinds := [], alts := [], laidByText := true, laidKinds := [.data, .data, .data, .data, .sentinel, .sentinel, .pinned], laidTests := true, laidLooks := .later }
def FnDeedTextsUptoCardSaid : Prop := Claim7.holds Tryz.pinned (.plain (OpenSpec.upto fnDeedTextsSpec)) fnDeedTextsUptoCard

/-- THE SECOND FORM's CARD OF 'laws.FnRecovered'. -/
def fnRecoveredUptoCard : Claim7 := { stood := { row := fnRecoveredUptoRow, standIns := [], harness := (true, "3b919395cf966f2426ba1e6789a8b6ab099790ea33c5158f3d8a1fd1b2b710e0"), looks := true }, kinds := [], alts := [], laidByText := true, laidKinds := [.data, .data, .data, .data, .sentinel, .sentinel, .pinned], laidTests := true, laidLooks := .later }
def FnRecoveredUptoCardSaid : Prop := Claim7.holds Tryz.pinned (.plain (OpenSpec.upto fnRecoveredSpec)) fnRecoveredUptoCard
end Rows
end Go.Proofs.YtbcggaldkihcaaaGreatDoor
