/-
  DERIVED. GIVEN WITH THE SEED: THE CARDS: each row of YtmgdodgofpapgaaDoorRows.lean that lists a variable, with what it lists TIED to the program's text (the seventh form; the later family's looks); each row that meets fmt, with fmt's text TOLD by the authors' own Lean function (tested against real Go, not proved from fmt's source: count such statements apart). THE CARD IS WHAT COUNTS. Prove the row's statement (the work); the ties are given (YtmgdodgofpapgaaDoorTie.lean); close each card by the builder's one call (the guide's Derived/Test/ToyasCard.lean, 'card_holds'). Laid BY PROGRAM, IN A SANDBOX (cutbox-door.mjs). By AI agents, Wed Nov 11 2026. No macro, syntax, notation, axiom, sorry.
-/
import Derived.Test.YtmgdodgofpapgaaDoorRows
import GoSem.ClaimSeven
namespace Go.Proofs.YtmgdodgofpapgaaDoor
namespace Rows

/-- THE TIED CARD OF 'laws.FnLawTexts'. -/
def fnLawTextsCard : Claim7 := { stood := { row := fnLawTextsRow, standIns := [], harness := (true, "5430d1495edd4e586c1cbd16958c67991144ea5dd767daab27486102dce39663"), looks := true }, kinds := [], alts := [], laidByText := true, laidKinds := [.data, .data, .data, .data, .sentinel, .sentinel, .pinned], laidTests := true, laidLooks := .later }
def FnLawTextsCardSaid : Prop := Claim7.holds Tryd.pinned (.plain (OpenSpec.ofChange fnLawTextsSpec)) fnLawTextsCard

/-- THE SECOND FORM's CARD OF 'laws.FnLawTexts'. -/
def fnLawTextsUptoCard : Claim7 := { stood := { row := fnLawTextsUptoRow, standIns := [], harness := (true, "5430d1495edd4e586c1cbd16958c67991144ea5dd767daab27486102dce39663"), looks := true }, kinds := [], alts := [], laidByText := true, laidKinds := [.data, .data, .data, .data, .sentinel, .sentinel, .pinned], laidTests := true, laidLooks := .later }
def FnLawTextsUptoCardSaid : Prop := Claim7.holds Tryd.pinned (.plain (OpenSpec.upto fnLawTextsSpec)) fnLawTextsUptoCard
end Rows
end Go.Proofs.YtmgdodgofpapgaaDoor
