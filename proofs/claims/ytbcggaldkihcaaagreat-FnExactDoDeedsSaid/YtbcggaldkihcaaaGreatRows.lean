/-
  No cell of these rows narrows 'for every input' (looked for: loops, veiled, ifaces, maps, wideKeys, modest, calm, conditions, laid).
  DERIVED. THE GIVEN ROWS OF THIS SEAT. 5 by the template 'for every input the law returns true; each argument reads behind the call as it read before'; 0 by the template 'total and deterministic' (their statements: YtbcggaldkihcaaaGreatTotals.lean).
  GIVEN WITH THE SEED: the statements are not yours to turn. If you find one false, say at which input.
  Laid BY PROGRAM, IN A SANDBOX (cutbox-rows.mjs): the forced cells as the released guide's own fill.sh prints them over the translation 2c507fe894d82f67… (all of the seat's roots in one cut). By AI agents, Wed Nov 11 2026. No macro, syntax, notation, axiom, sorry.
-/
import Derived.Test.YtbcggaldkihcaaaGreatChecked
import GoSem.Claim
import GoSem.ClaimJoined
import GoSem.ClaimMapViews
import Derived.JoinedTies
import Derived.KernelRfl
namespace Go.Proofs.YtbcggaldkihcaaaGreat
/- THE CELL 'sum', in the pinned program and in every row, IS THE sha256 OF THE DUMP (.gsa) THAT YtbcggaldkihcaaaGreatProg.lean LOADS. Nothing in Lean hashes anything: it is a label: what it is worth is what the hold of that sum in a sandbox is worth. -/
noncomputable def Tryz.pinned : Pinned := { name := "ytbcggaldkihcaaagreat", sum := "2c507fe894d82f67349d7c3c081885921573f9ed7ea5c7464d7041c759b46c01", checked := Tryz.checked }
namespace Rows
def none {H : Type} : Left H := { results := [], args := [] }

/-- 'laws.FnCounted': WHATEVER THE INPUT: true; the input reads as it did. -/
def fnCountedSpec : ChangeSpec := { name := "fnCounted", fn := fun _ => fun
  | [d1, d2] => { results := [.lit (.bool true)], args := [d1, d2] }
  | _ => none }
def fnCountedRow : OpenClaim := { program := "ytbcggaldkihcaaagreat", sum := "2c507fe894d82f67349d7c3c081885921573f9ed7ea5c7464d7041c759b46c01", func := "loop.example/g01095/laws.FnCounted", spec := "fnCounted", inPlace := ["slices.overlaps[loop.example/g01095/impl.Article]"], unfollowed := true, recurses := true, apart := false }
def FnCountedSaid : Prop := fnCountedRow.holds Tryz.pinned (OpenSpec.ofChange fnCountedSpec)

/-- ITS FALSE NEIGHBOUR: 'it returns false'. Refute it at one input. -/
def fnCountedWrong : ChangeSpec := { name := "fnCounted", fn := fun _ => fun
  | [d1, d2] => { results := [.lit (.bool false)], args := [d1, d2] }
  | _ => none }
def FnCountedWrongFalsely : Prop := fnCountedRow.holds Tryz.pinned (OpenSpec.ofChange fnCountedWrong)

/-- 'laws.FnDecided': WHATEVER THE INPUT: true; the input reads as it did. -/
def fnDecidedSpec : ChangeSpec := { name := "fnDecided", fn := fun _ => fun
  | [d1, d2] => { results := [.lit (.bool true)], args := [d1, d2] }
  | _ => none }
def fnDecidedRow : OpenClaim := { program := "ytbcggaldkihcaaagreat", sum := "2c507fe894d82f67349d7c3c081885921573f9ed7ea5c7464d7041c759b46c01", func := "loop.example/g01095/laws.FnDecided", spec := "fnDecided", inPlace := ["slices.overlaps[loop.example/g01095/impl.Article]", "slices.overlaps[loop.example/g01095/impl.Act]"], unfollowed := true, recurses := true, apart := false }
def FnDecidedSaid : Prop := fnDecidedRow.holds Tryz.pinned (OpenSpec.ofChange fnDecidedSpec)

/-- ITS FALSE NEIGHBOUR: 'it returns false'. Refute it at one input. -/
def fnDecidedWrong : ChangeSpec := { name := "fnDecided", fn := fun _ => fun
  | [d1, d2] => { results := [.lit (.bool false)], args := [d1, d2] }
  | _ => none }
def FnDecidedWrongFalsely : Prop := fnDecidedRow.holds Tryz.pinned (OpenSpec.ofChange fnDecidedWrong)

/-- 'laws.FnFaithful': WHATEVER THE INPUT: true; the input reads as it did. -/
def fnFaithfulSpec : ChangeSpec := { name := "fnFaithful", fn := fun _ => fun
  | [d1, d2] => { results := [.lit (.bool true)], args := [d1, d2] }
  | _ => none }
def fnFaithfulRow : OpenClaim := { program := "ytbcggaldkihcaaagreat", sum := "2c507fe894d82f67349d7c3c081885921573f9ed7ea5c7464d7041c759b46c01", func := "loop.example/g01095/laws.FnFaithful", spec := "fnFaithful", inPlace := ["slices.overlaps[loop.example/g01095/impl.Article]", "slices.overlaps[loop.example/g01095/impl.Act]"], unfollowed := true, recurses := true, apart := false }
def FnFaithfulSaid : Prop := fnFaithfulRow.holds Tryz.pinned (OpenSpec.ofChange fnFaithfulSpec)

/-- ITS FALSE NEIGHBOUR: 'it returns false'. Refute it at one input. -/
def fnFaithfulWrong : ChangeSpec := { name := "fnFaithful", fn := fun _ => fun
  | [d1, d2] => { results := [.lit (.bool false)], args := [d1, d2] }
  | _ => none }
def FnFaithfulWrongFalsely : Prop := fnFaithfulRow.holds Tryz.pinned (OpenSpec.ofChange fnFaithfulWrong)

/-- 'laws.FnSwing': WHATEVER THE INPUT: true; the input reads as it did. -/
def fnSwingSpec : ChangeSpec := { name := "fnSwing", fn := fun _ => fun
  | [d1, d2] => { results := [.lit (.bool true)], args := [d1, d2] }
  | _ => none }
def fnSwingRow : OpenClaim := { program := "ytbcggaldkihcaaagreat", sum := "2c507fe894d82f67349d7c3c081885921573f9ed7ea5c7464d7041c759b46c01", func := "loop.example/g01095/laws.FnSwing", spec := "fnSwing", inPlace := ["slices.overlaps[loop.example/g01095/impl.Article]", "slices.overlaps[loop.example/g01095/impl.Act]"], unfollowed := true, recurses := true, apart := false }
def FnSwingSaid : Prop := fnSwingRow.holds Tryz.pinned (OpenSpec.ofChange fnSwingSpec)

/-- ITS FALSE NEIGHBOUR: 'it returns false'. Refute it at one input. -/
def fnSwingWrong : ChangeSpec := { name := "fnSwing", fn := fun _ => fun
  | [d1, d2] => { results := [.lit (.bool false)], args := [d1, d2] }
  | _ => none }
def FnSwingWrongFalsely : Prop := fnSwingRow.holds Tryz.pinned (OpenSpec.ofChange fnSwingWrong)

/-- 'laws.FnExactDoDeeds': WHATEVER THE INPUT: true; the input reads as it did. -/
def fnExactDoDeedsSpec : ChangeSpec := { name := "fnExactDoDeeds", fn := fun _ => fun
  | [d1, d2] => { results := [.lit (.bool true)], args := [d1, d2] }
  | _ => none }
def fnExactDoDeedsRow : OpenClaim := { program := "ytbcggaldkihcaaagreat", sum := "2c507fe894d82f67349d7c3c081885921573f9ed7ea5c7464d7041c759b46c01", func := "loop.example/g01095/laws.FnExactDoDeeds", spec := "fnExactDoDeeds", inPlace := ["slices.overlaps[loop.example/g01095/impl.Article]", "slices.overlaps[loop.example/g01095/impl.Act]"], unfollowed := true, recurses := true, apart := false }
def FnExactDoDeedsSaid : Prop := fnExactDoDeedsRow.holds Tryz.pinned (OpenSpec.ofChange fnExactDoDeedsSpec)

/-- ITS FALSE NEIGHBOUR: 'it returns false'. Refute it at one input. -/
def fnExactDoDeedsWrong : ChangeSpec := { name := "fnExactDoDeeds", fn := fun _ => fun
  | [d1, d2] => { results := [.lit (.bool false)], args := [d1, d2] }
  | _ => none }
def FnExactDoDeedsWrongFalsely : Prop := fnExactDoDeedsRow.holds Tryz.pinned (OpenSpec.ofChange fnExactDoDeedsWrong)

/- THE SECOND FORM. 'bulk': how many values and letters a reading holds, each counted each time it is reached (what is shared counts as often as it is met; a slice's spare places count too). A statement '..UptoSaid' is the law's where the arguments, and the package variables that the reading takes, are together of bulk at most 1048576: NARROWER than '..Said'. Prove '..Said' where nothing that the law and all that it calls make is longer than what came in: it says more and counts as full. Else prove '..UptoSaid'. A law counts once. -/
mutual
def uptoBulk {H : Type} : DataW H → Nat
  | .lit (.string bytes) => bytes.length + 1
  | .lit _ => 1
  | .nil => 1
  | .ptr d => uptoBulk d + 1
  | .slice elems spare => uptoBulkAll elems + uptoBulkAll spare + 1
  | .agg parts => uptoBulkAll parts + 1
  | .iface _ d => uptoBulk d + 1
  | .map entries => uptoBulkEntries entries + 1
  | .held _ => 1
def uptoBulkAll {H : Type} : List (DataW H) → Nat
  | [] => 0
  | d :: r => uptoBulk d + uptoBulkAll r
def uptoBulkEntries {H : Type} : List (Lit × DataW H) → Nat
  | [] => 0
  | x :: r => uptoBulkEntry x + uptoBulkEntries r
def uptoBulkEntry {H : Type} : Lit × DataW H → Nat
  | (.string bytes, d) => bytes.length + uptoBulk d + 1
  | (_, d) => uptoBulk d + 1
 end
def uptoSmall : (H : Type) → List (DataW H) → Bool := fun _ ds => decide (uptoBulkAll ds ≤ 1048576)
def OpenSpec.upto (s : _root_.Go.ChangeSpec) : _root_.Go.OpenSpec := { _root_.Go.OpenSpec.ofChange s with cond := some uptoSmall }

/-- 'laws.FnCounted', WHERE WHAT IT READS IS OF BULK AT MOST 1048576: true; the input reads as it did. -/
def fnCountedUptoRow : OpenClaim := { program := "ytbcggaldkihcaaagreat", sum := "2c507fe894d82f67349d7c3c081885921573f9ed7ea5c7464d7041c759b46c01", func := "loop.example/g01095/laws.FnCounted", spec := "fnCounted", inPlace := ["slices.overlaps[loop.example/g01095/impl.Article]"], unfollowed := true, recurses := true, apart := false, narrowed := true }
def FnCountedUptoSaid : Prop := fnCountedUptoRow.holds Tryz.pinned (OpenSpec.upto fnCountedSpec)

/-- 'laws.FnDecided', WHERE WHAT IT READS IS OF BULK AT MOST 1048576: true; the input reads as it did. -/
def fnDecidedUptoRow : OpenClaim := { program := "ytbcggaldkihcaaagreat", sum := "2c507fe894d82f67349d7c3c081885921573f9ed7ea5c7464d7041c759b46c01", func := "loop.example/g01095/laws.FnDecided", spec := "fnDecided", inPlace := ["slices.overlaps[loop.example/g01095/impl.Article]", "slices.overlaps[loop.example/g01095/impl.Act]"], unfollowed := true, recurses := true, apart := false, narrowed := true }
def FnDecidedUptoSaid : Prop := fnDecidedUptoRow.holds Tryz.pinned (OpenSpec.upto fnDecidedSpec)

/-- 'laws.FnFaithful', WHERE WHAT IT READS IS OF BULK AT MOST 1048576: true; the input reads as it did. -/
def fnFaithfulUptoRow : OpenClaim := { program := "ytbcggaldkihcaaagreat", sum := "2c507fe894d82f67349d7c3c081885921573f9ed7ea5c7464d7041c759b46c01", func := "loop.example/g01095/laws.FnFaithful", spec := "fnFaithful", inPlace := ["slices.overlaps[loop.example/g01095/impl.Article]", "slices.overlaps[loop.example/g01095/impl.Act]"], unfollowed := true, recurses := true, apart := false, narrowed := true }
def FnFaithfulUptoSaid : Prop := fnFaithfulUptoRow.holds Tryz.pinned (OpenSpec.upto fnFaithfulSpec)

/-- 'laws.FnSwing', WHERE WHAT IT READS IS OF BULK AT MOST 1048576: true; the input reads as it did. -/
def fnSwingUptoRow : OpenClaim := { program := "ytbcggaldkihcaaagreat", sum := "2c507fe894d82f67349d7c3c081885921573f9ed7ea5c7464d7041c759b46c01", func := "loop.example/g01095/laws.FnSwing", spec := "fnSwing", inPlace := ["slices.overlaps[loop.example/g01095/impl.Article]", "slices.overlaps[loop.example/g01095/impl.Act]"], unfollowed := true, recurses := true, apart := false, narrowed := true }
def FnSwingUptoSaid : Prop := fnSwingUptoRow.holds Tryz.pinned (OpenSpec.upto fnSwingSpec)

/-- 'laws.FnExactDoDeeds', WHERE WHAT IT READS IS OF BULK AT MOST 1048576: true; the input reads as it did. -/
def fnExactDoDeedsUptoRow : OpenClaim := { program := "ytbcggaldkihcaaagreat", sum := "2c507fe894d82f67349d7c3c081885921573f9ed7ea5c7464d7041c759b46c01", func := "loop.example/g01095/laws.FnExactDoDeeds", spec := "fnExactDoDeeds", inPlace := ["slices.overlaps[loop.example/g01095/impl.Article]", "slices.overlaps[loop.example/g01095/impl.Act]"], unfollowed := true, recurses := true, apart := false, narrowed := true }
def FnExactDoDeedsUptoSaid : Prop := fnExactDoDeedsUptoRow.holds Tryz.pinned (OpenSpec.upto fnExactDoDeedsSpec)

end Rows
end Go.Proofs.YtbcggaldkihcaaaGreat
