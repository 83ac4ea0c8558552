/-
  DERIVED. GIVEN WITH THE SEED: THE CARDS: each row of YtbamlilnbhhcmaaDoorRows.lean that lists a variable, with what it lists TIED to the program's text (the seventh form; the later family's looks); each row that meets fmt, with fmt's text TOLD by the authors' own Lean function (tested against real Go, not proved from fmt's source: count such statements apart). THE CARD IS WHAT COUNTS. Prove the row's statement (the work); the ties are given (YtbamlilnbhhcmaaDoorTie.lean); close each card by the builder's one call (the guide's Derived/Test/ToyasCard.lean, 'card_holds'). Laid BY PROGRAM, IN A SANDBOX (cutbox-door.mjs). By AI agents, Wed Nov 11 2026. No macro, syntax, notation, axiom, sorry.
-/
import Derived.Test.YtbamlilnbhhcmaaDoorRows
import GoSem.ClaimSeven
namespace Go.Proofs.YtbamlilnbhhcmaaDoor
namespace Rows

/-- THE TIED CARD OF 'laws.FnVoiceTexts'. -/
def fnVoiceTextsCard : Claim7 := { stood := { row := fnVoiceTextsRow, standIns := [], harness := (true, "405459ed831cdc9182931a462785ce07b8308a9ae991c3fd777a8ff317a9c506"), looks := true }, kinds := [], alts := [], laidByText := true, laidKinds := [.data, .data, .data, .data, .sentinel, .sentinel, .pinned], laidTests := true, laidLooks := .later }
def FnVoiceTextsCardSaid : Prop := Claim7.holds Tryd.pinned (.plain (OpenSpec.ofChange fnVoiceTextsSpec)) fnVoiceTextsCard

/-- THE SECOND FORM's CARD OF 'laws.FnVoiceTexts'. -/
def fnVoiceTextsUptoCard : Claim7 := { stood := { row := fnVoiceTextsUptoRow, standIns := [], harness := (true, "405459ed831cdc9182931a462785ce07b8308a9ae991c3fd777a8ff317a9c506"), looks := true }, kinds := [], alts := [], laidByText := true, laidKinds := [.data, .data, .data, .data, .sentinel, .sentinel, .pinned], laidTests := true, laidLooks := .later }
def FnVoiceTextsUptoCardSaid : Prop := Claim7.holds Tryd.pinned (.plain (OpenSpec.upto fnVoiceTextsSpec)) fnVoiceTextsUptoCard
end Rows
end Go.Proofs.YtbamlilnbhhcmaaDoor
