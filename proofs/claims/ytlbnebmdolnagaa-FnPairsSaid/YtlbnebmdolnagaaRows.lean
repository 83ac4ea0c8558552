/-
  No cell of these rows narrows 'for every input' (looked for: loops, veiled, ifaces, maps, wideKeys, modest, calm, conditions, laid).
  DERIVED. THE GIVEN ROWS OF THIS SEAT. 7 by the template 'for every input the law returns true; each argument reads behind the call as it read before'; 0 by the template 'total and deterministic' (their statements: YtlbnebmdolnagaaTotals.lean).
  GIVEN WITH THE SEED: the statements are not yours to turn. If you find one false, say at which input.
  Laid BY PROGRAM, IN A SANDBOX (cutbox-rows.mjs): the forced cells as the released guide's own fill.sh prints them over the translation d2af36f3eeec0dce… (all of the seat's roots in one cut). By AI agents, Wed Nov 11 2026. No macro, syntax, notation, axiom, sorry.
-/
import Derived.Test.YtlbnebmdolnagaaChecked
import GoSem.Claim
import GoSem.ClaimJoined
import GoSem.ClaimMapViews
import Derived.JoinedTies
import Derived.KernelRfl
namespace Go.Proofs.Ytlbnebmdolnagaa
/- THE CELL 'sum', in the pinned program and in every row, IS THE sha256 OF THE DUMP (.gsa) THAT YtlbnebmdolnagaaProg.lean LOADS. Nothing in Lean hashes anything: it is a label: what it is worth is what the hold of that sum in a sandbox is worth. -/
noncomputable def Try.pinned : Pinned := { name := "ytlbnebmdolnagaa", sum := "d2af36f3eeec0dce8cec218ec1cbb685266d80d3a446af6d927b1f1fe5198f1c", checked := Try.checked }
namespace Rows
def none {H : Type} : Left H := { results := [], args := [] }

/-- 'laws.FnDropped': WHATEVER THE INPUT: true; the input reads as it did. -/
def fnDroppedSpec : ChangeSpec := { name := "fnDropped", fn := fun _ => fun
  | [d1, d2] => { results := [.lit (.bool true)], args := [d1, d2] }
  | _ => none }
def fnDroppedRow : OpenClaim := { program := "ytlbnebmdolnagaa", sum := "d2af36f3eeec0dce8cec218ec1cbb685266d80d3a446af6d927b1f1fe5198f1c", func := "loop.example/g01095/laws.FnDropped", spec := "fnDropped", unfollowed := true, recurses := true, apart := false }
def FnDroppedSaid : Prop := fnDroppedRow.holds Try.pinned (OpenSpec.ofChange fnDroppedSpec)

/-- ITS FALSE NEIGHBOUR: 'it returns false'. Refute it at one input. -/
def fnDroppedWrong : ChangeSpec := { name := "fnDropped", fn := fun _ => fun
  | [d1, d2] => { results := [.lit (.bool false)], args := [d1, d2] }
  | _ => none }
def FnDroppedWrongFalsely : Prop := fnDroppedRow.holds Try.pinned (OpenSpec.ofChange fnDroppedWrong)

/-- 'laws.FnPairs': WHATEVER THE INPUT: true; the input reads as it did. -/
def fnPairsSpec : ChangeSpec := { name := "fnPairs", fn := fun _ => fun
  | [d1, d2] => { results := [.lit (.bool true)], args := [d1, d2] }
  | _ => none }
def fnPairsRow : OpenClaim := { program := "ytlbnebmdolnagaa", sum := "d2af36f3eeec0dce8cec218ec1cbb685266d80d3a446af6d927b1f1fe5198f1c", func := "loop.example/g01095/laws.FnPairs", spec := "fnPairs", unfollowed := true, recurses := true, apart := false }
def FnPairsSaid : Prop := fnPairsRow.holds Try.pinned (OpenSpec.ofChange fnPairsSpec)

/-- ITS FALSE NEIGHBOUR: 'it returns false'. Refute it at one input. -/
def fnPairsWrong : ChangeSpec := { name := "fnPairs", fn := fun _ => fun
  | [d1, d2] => { results := [.lit (.bool false)], args := [d1, d2] }
  | _ => none }
def FnPairsWrongFalsely : Prop := fnPairsRow.holds Try.pinned (OpenSpec.ofChange fnPairsWrong)

/-- 'laws.FnDefeats': WHATEVER THE INPUT: true; the input reads as it did. -/
def fnDefeatsSpec : ChangeSpec := { name := "fnDefeats", fn := fun _ => fun
  | [d1, d2] => { results := [.lit (.bool true)], args := [d1, d2] }
  | _ => none }
def fnDefeatsRow : OpenClaim := { program := "ytlbnebmdolnagaa", sum := "d2af36f3eeec0dce8cec218ec1cbb685266d80d3a446af6d927b1f1fe5198f1c", func := "loop.example/g01095/laws.FnDefeats", spec := "fnDefeats", unfollowed := true, recurses := true, apart := false }
def FnDefeatsSaid : Prop := fnDefeatsRow.holds Try.pinned (OpenSpec.ofChange fnDefeatsSpec)

/-- ITS FALSE NEIGHBOUR: 'it returns false'. Refute it at one input. -/
def fnDefeatsWrong : ChangeSpec := { name := "fnDefeats", fn := fun _ => fun
  | [d1, d2] => { results := [.lit (.bool false)], args := [d1, d2] }
  | _ => none }
def FnDefeatsWrongFalsely : Prop := fnDefeatsRow.holds Try.pinned (OpenSpec.ofChange fnDefeatsWrong)

/-- 'laws.FnPanels': WHATEVER THE INPUT: true; the input reads as it did. -/
def fnPanelsSpec : ChangeSpec := { name := "fnPanels", fn := fun _ => fun
  | [d1, d2] => { results := [.lit (.bool true)], args := [d1, d2] }
  | _ => none }
def fnPanelsRow : OpenClaim := { program := "ytlbnebmdolnagaa", sum := "d2af36f3eeec0dce8cec218ec1cbb685266d80d3a446af6d927b1f1fe5198f1c", func := "loop.example/g01095/laws.FnPanels", spec := "fnPanels", unfollowed := true, recurses := true, apart := false }
def FnPanelsSaid : Prop := fnPanelsRow.holds Try.pinned (OpenSpec.ofChange fnPanelsSpec)

/-- ITS FALSE NEIGHBOUR: 'it returns false'. Refute it at one input. -/
def fnPanelsWrong : ChangeSpec := { name := "fnPanels", fn := fun _ => fun
  | [d1, d2] => { results := [.lit (.bool false)], args := [d1, d2] }
  | _ => none }
def FnPanelsWrongFalsely : Prop := fnPanelsRow.holds Try.pinned (OpenSpec.ofChange fnPanelsWrong)

/-- 'laws.FnLottery': WHATEVER THE INPUT: true; the input reads as it did. -/
def fnLotterySpec : ChangeSpec := { name := "fnLottery", fn := fun _ => fun
  | [d1, d2] => { results := [.lit (.bool true)], args := [d1, d2] }
  | _ => none }
def fnLotteryRow : OpenClaim := { program := "ytlbnebmdolnagaa", sum := "d2af36f3eeec0dce8cec218ec1cbb685266d80d3a446af6d927b1f1fe5198f1c", func := "loop.example/g01095/laws.FnLottery", spec := "fnLottery", unfollowed := true, recurses := true, apart := false }
def FnLotterySaid : Prop := fnLotteryRow.holds Try.pinned (OpenSpec.ofChange fnLotterySpec)

/-- ITS FALSE NEIGHBOUR: 'it returns false'. Refute it at one input. -/
def fnLotteryWrong : ChangeSpec := { name := "fnLottery", fn := fun _ => fun
  | [d1, d2] => { results := [.lit (.bool false)], args := [d1, d2] }
  | _ => none }
def FnLotteryWrongFalsely : Prop := fnLotteryRow.holds Try.pinned (OpenSpec.ofChange fnLotteryWrong)

/-- 'laws.FnPaid': WHATEVER THE INPUT: true; the input reads as it did. -/
def fnPaidSpec : ChangeSpec := { name := "fnPaid", fn := fun _ => fun
  | [d1, d2] => { results := [.lit (.bool true)], args := [d1, d2] }
  | _ => none }
def fnPaidRow : OpenClaim := { program := "ytlbnebmdolnagaa", sum := "d2af36f3eeec0dce8cec218ec1cbb685266d80d3a446af6d927b1f1fe5198f1c", func := "loop.example/g01095/laws.FnPaid", spec := "fnPaid", unfollowed := true, recurses := true, apart := false }
def FnPaidSaid : Prop := fnPaidRow.holds Try.pinned (OpenSpec.ofChange fnPaidSpec)

/-- ITS FALSE NEIGHBOUR: 'it returns false'. Refute it at one input. -/
def fnPaidWrong : ChangeSpec := { name := "fnPaid", fn := fun _ => fun
  | [d1, d2] => { results := [.lit (.bool false)], args := [d1, d2] }
  | _ => none }
def FnPaidWrongFalsely : Prop := fnPaidRow.holds Try.pinned (OpenSpec.ofChange fnPaidWrong)

/-- 'laws.FnJustified': WHATEVER THE INPUT: true; the input reads as it did. -/
def fnJustifiedSpec : ChangeSpec := { name := "fnJustified", fn := fun _ => fun
  | [d1, d2] => { results := [.lit (.bool true)], args := [d1, d2] }
  | _ => none }
def fnJustifiedRow : OpenClaim := { program := "ytlbnebmdolnagaa", sum := "d2af36f3eeec0dce8cec218ec1cbb685266d80d3a446af6d927b1f1fe5198f1c", func := "loop.example/g01095/laws.FnJustified", spec := "fnJustified", unfollowed := true, recurses := true, apart := false }
def FnJustifiedSaid : Prop := fnJustifiedRow.holds Try.pinned (OpenSpec.ofChange fnJustifiedSpec)

/-- ITS FALSE NEIGHBOUR: 'it returns false'. Refute it at one input. -/
def fnJustifiedWrong : ChangeSpec := { name := "fnJustified", fn := fun _ => fun
  | [d1, d2] => { results := [.lit (.bool false)], args := [d1, d2] }
  | _ => none }
def FnJustifiedWrongFalsely : Prop := fnJustifiedRow.holds Try.pinned (OpenSpec.ofChange fnJustifiedWrong)

/- THE SECOND FORM. 'bulk': how many values and letters a reading holds, each counted each time it is reached (what is shared counts as often as it is met; a slice's spare places count too). A statement '..UptoSaid' is the law's where the arguments, and the package variables that the reading takes, are together of bulk at most 1048576: NARROWER than '..Said'. Prove '..Said' where nothing that the law and all that it calls make is longer than what came in: it says more and counts as full. Else prove '..UptoSaid'. A law counts once. -/
mutual
def uptoBulk {H : Type} : DataW H → Nat
  | .lit (.string bytes) => bytes.length + 1
  | .lit _ => 1
  | .nil => 1
  | .ptr d => uptoBulk d + 1
  | .slice elems spare => uptoBulkAll elems + uptoBulkAll spare + 1
  | .agg parts => uptoBulkAll parts + 1
  | .iface _ d => uptoBulk d + 1
  | .map entries => uptoBulkEntries entries + 1
  | .held _ => 1
def uptoBulkAll {H : Type} : List (DataW H) → Nat
  | [] => 0
  | d :: r => uptoBulk d + uptoBulkAll r
def uptoBulkEntries {H : Type} : List (Lit × DataW H) → Nat
  | [] => 0
  | x :: r => uptoBulkEntry x + uptoBulkEntries r
def uptoBulkEntry {H : Type} : Lit × DataW H → Nat
  | (.string bytes, d) => bytes.length + uptoBulk d + 1
  | (_, d) => uptoBulk d + 1
 end
def uptoSmall : (H : Type) → List (DataW H) → Bool := fun _ ds => decide (uptoBulkAll ds ≤ 1048576)
def OpenSpec.upto (s : _root_.Go.ChangeSpec) : _root_.Go.OpenSpec := { _root_.Go.OpenSpec.ofChange s with cond := some uptoSmall }

/-- 'laws.FnDropped', WHERE WHAT IT READS IS OF BULK AT MOST 1048576: true; the input reads as it did. -/
def fnDroppedUptoRow : OpenClaim := { program := "ytlbnebmdolnagaa", sum := "d2af36f3eeec0dce8cec218ec1cbb685266d80d3a446af6d927b1f1fe5198f1c", func := "loop.example/g01095/laws.FnDropped", spec := "fnDropped", unfollowed := true, recurses := true, apart := false, narrowed := true }
def FnDroppedUptoSaid : Prop := fnDroppedUptoRow.holds Try.pinned (OpenSpec.upto fnDroppedSpec)

/-- 'laws.FnPairs', WHERE WHAT IT READS IS OF BULK AT MOST 1048576: true; the input reads as it did. -/
def fnPairsUptoRow : OpenClaim := { program := "ytlbnebmdolnagaa", sum := "d2af36f3eeec0dce8cec218ec1cbb685266d80d3a446af6d927b1f1fe5198f1c", func := "loop.example/g01095/laws.FnPairs", spec := "fnPairs", unfollowed := true, recurses := true, apart := false, narrowed := true }
def FnPairsUptoSaid : Prop := fnPairsUptoRow.holds Try.pinned (OpenSpec.upto fnPairsSpec)

/-- 'laws.FnDefeats', WHERE WHAT IT READS IS OF BULK AT MOST 1048576: true; the input reads as it did. -/
def fnDefeatsUptoRow : OpenClaim := { program := "ytlbnebmdolnagaa", sum := "d2af36f3eeec0dce8cec218ec1cbb685266d80d3a446af6d927b1f1fe5198f1c", func := "loop.example/g01095/laws.FnDefeats", spec := "fnDefeats", unfollowed := true, recurses := true, apart := false, narrowed := true }
def FnDefeatsUptoSaid : Prop := fnDefeatsUptoRow.holds Try.pinned (OpenSpec.upto fnDefeatsSpec)

/-- 'laws.FnPanels', WHERE WHAT IT READS IS OF BULK AT MOST 1048576: true; the input reads as it did. -/
def fnPanelsUptoRow : OpenClaim := { program := "ytlbnebmdolnagaa", sum := "d2af36f3eeec0dce8cec218ec1cbb685266d80d3a446af6d927b1f1fe5198f1c", func := "loop.example/g01095/laws.FnPanels", spec := "fnPanels", unfollowed := true, recurses := true, apart := false, narrowed := true }
def FnPanelsUptoSaid : Prop := fnPanelsUptoRow.holds Try.pinned (OpenSpec.upto fnPanelsSpec)

/-- 'laws.FnLottery', WHERE WHAT IT READS IS OF BULK AT MOST 1048576: true; the input reads as it did. -/
def fnLotteryUptoRow : OpenClaim := { program := "ytlbnebmdolnagaa", sum := "d2af36f3eeec0dce8cec218ec1cbb685266d80d3a446af6d927b1f1fe5198f1c", func := "loop.example/g01095/laws.FnLottery", spec := "fnLottery", unfollowed := true, recurses := true, apart := false, narrowed := true }
def FnLotteryUptoSaid : Prop := fnLotteryUptoRow.holds Try.pinned (OpenSpec.upto fnLotterySpec)

/-- 'laws.FnPaid', WHERE WHAT IT READS IS OF BULK AT MOST 1048576: true; the input reads as it did. -/
def fnPaidUptoRow : OpenClaim := { program := "ytlbnebmdolnagaa", sum := "d2af36f3eeec0dce8cec218ec1cbb685266d80d3a446af6d927b1f1fe5198f1c", func := "loop.example/g01095/laws.FnPaid", spec := "fnPaid", unfollowed := true, recurses := true, apart := false, narrowed := true }
def FnPaidUptoSaid : Prop := fnPaidUptoRow.holds Try.pinned (OpenSpec.upto fnPaidSpec)

/-- 'laws.FnJustified', WHERE WHAT IT READS IS OF BULK AT MOST 1048576: true; the input reads as it did. -/
def fnJustifiedUptoRow : OpenClaim := { program := "ytlbnebmdolnagaa", sum := "d2af36f3eeec0dce8cec218ec1cbb685266d80d3a446af6d927b1f1fe5198f1c", func := "loop.example/g01095/laws.FnJustified", spec := "fnJustified", unfollowed := true, recurses := true, apart := false, narrowed := true }
def FnJustifiedUptoSaid : Prop := fnJustifiedUptoRow.holds Try.pinned (OpenSpec.upto fnJustifiedSpec)

end Rows
end Go.Proofs.Ytlbnebmdolnagaa
