/-
  No cell of these rows narrows 'for every input' (looked for: loops, veiled, ifaces, maps, wideKeys, modest, calm, conditions, laid).
  DERIVED. THE GIVEN ROWS OF THIS SEAT. 4 by the template 'for every input the law returns true; each argument reads behind the call as it read before'; 0 by the template 'total and deterministic' (their statements: YtmfgonddmodpmaaGreatTotals.lean).
  GIVEN WITH THE SEED: the statements are not yours to turn. If you find one false, say at which input.
  Laid BY PROGRAM, IN A SANDBOX (cutbox-rows.mjs): the forced cells as the released guide's own fill.sh prints them over the translation 2092afbdaaafe5c8… (all of the seat's roots in one cut). By AI agents, Wed Nov 11 2026. No macro, syntax, notation, axiom, sorry.
-/
import Derived.Test.YtmfgonddmodpmaaGreatChecked
import GoSem.Claim
import GoSem.ClaimJoined
import GoSem.ClaimMapViews
import Derived.JoinedTies
import Derived.KernelRfl
namespace Go.Proofs.YtmfgonddmodpmaaGreat
/- THE CELL 'sum', in the pinned program and in every row, IS THE sha256 OF THE DUMP (.gsa) THAT YtmfgonddmodpmaaGreatProg.lean LOADS. Nothing in Lean hashes anything: it is a label: what it is worth is what the hold of that sum in a sandbox is worth. -/
noncomputable def Tryz.pinned : Pinned := { name := "ytmfgonddmodpmaagreat", sum := "2092afbdaaafe5c8a7ead51c1fea947bd71147515bb439798f5a9a4ac1261165", checked := Tryz.checked }
namespace Rows
def none {H : Type} : Left H := { results := [], args := [] }

/-- 'laws.FnExactValidAssembly': WHATEVER THE INPUT: true; the input reads as it did. -/
def fnExactValidAssemblySpec : ChangeSpec := { name := "fnExactValidAssembly", fn := fun _ => fun
  | [d] => { results := [.lit (.bool true)], args := [d] }
  | _ => none }
def fnExactValidAssemblyRow : OpenClaim := { program := "ytmfgonddmodpmaagreat", sum := "2092afbdaaafe5c8a7ead51c1fea947bd71147515bb439798f5a9a4ac1261165", func := "loop.example/g01095/laws.FnExactValidAssembly", spec := "fnExactValidAssembly", inPlace := ["slices.overlaps[loop.example/g01095/impl.Article]"], unfollowed := true, recurses := true, apart := false }
def FnExactValidAssemblySaid : Prop := fnExactValidAssemblyRow.holds Tryz.pinned (OpenSpec.ofChange fnExactValidAssemblySpec)

/-- ITS FALSE NEIGHBOUR: 'it returns false'. Refute it at one input. -/
def fnExactValidAssemblyWrong : ChangeSpec := { name := "fnExactValidAssembly", fn := fun _ => fun
  | [d] => { results := [.lit (.bool false)], args := [d] }
  | _ => none }
def FnExactValidAssemblyWrongFalsely : Prop := fnExactValidAssemblyRow.holds Tryz.pinned (OpenSpec.ofChange fnExactValidAssemblyWrong)

/-- 'laws.FnExactTextToday': WHATEVER THE INPUT: true; the input reads as it did. -/
def fnExactTextTodaySpec : ChangeSpec := { name := "fnExactTextToday", fn := fun _ => fun
  | [d] => { results := [.lit (.bool true)], args := [d] }
  | _ => none }
def fnExactTextTodayRow : OpenClaim := { program := "ytmfgonddmodpmaagreat", sum := "2092afbdaaafe5c8a7ead51c1fea947bd71147515bb439798f5a9a4ac1261165", func := "loop.example/g01095/laws.FnExactTextToday", spec := "fnExactTextToday", inPlace := ["slices.overlaps[loop.example/g01095/impl.Article]"], unfollowed := true, recurses := true, apart := false }
def FnExactTextTodaySaid : Prop := fnExactTextTodayRow.holds Tryz.pinned (OpenSpec.ofChange fnExactTextTodaySpec)

/-- ITS FALSE NEIGHBOUR: 'it returns false'. Refute it at one input. -/
def fnExactTextTodayWrong : ChangeSpec := { name := "fnExactTextToday", fn := fun _ => fun
  | [d] => { results := [.lit (.bool false)], args := [d] }
  | _ => none }
def FnExactTextTodayWrongFalsely : Prop := fnExactTextTodayRow.holds Tryz.pinned (OpenSpec.ofChange fnExactTextTodayWrong)

/-- 'laws.FnExactSameAssembly': WHATEVER THE INPUT: true; the input reads as it did. -/
def fnExactSameAssemblySpec : ChangeSpec := { name := "fnExactSameAssembly", fn := fun _ => fun
  | [d1, d2] => { results := [.lit (.bool true)], args := [d1, d2] }
  | _ => none }
def fnExactSameAssemblyRow : OpenClaim := { program := "ytmfgonddmodpmaagreat", sum := "2092afbdaaafe5c8a7ead51c1fea947bd71147515bb439798f5a9a4ac1261165", func := "loop.example/g01095/laws.FnExactSameAssembly", spec := "fnExactSameAssembly", inPlace := ["slices.overlaps[loop.example/g01095/impl.Article]"], unfollowed := true, recurses := true, apart := false }
def FnExactSameAssemblySaid : Prop := fnExactSameAssemblyRow.holds Tryz.pinned (OpenSpec.ofChange fnExactSameAssemblySpec)

/-- ITS FALSE NEIGHBOUR: 'it returns false'. Refute it at one input. -/
def fnExactSameAssemblyWrong : ChangeSpec := { name := "fnExactSameAssembly", fn := fun _ => fun
  | [d1, d2] => { results := [.lit (.bool false)], args := [d1, d2] }
  | _ => none }
def FnExactSameAssemblyWrongFalsely : Prop := fnExactSameAssemblyRow.holds Tryz.pinned (OpenSpec.ofChange fnExactSameAssemblyWrong)

/-- 'laws.FnExactVoicesFor': WHATEVER THE INPUT: true; the input reads as it did. -/
def fnExactVoicesForSpec : ChangeSpec := { name := "fnExactVoicesFor", fn := fun _ => fun
  | [d1, d2] => { results := [.lit (.bool true)], args := [d1, d2] }
  | _ => none }
def fnExactVoicesForRow : OpenClaim := { program := "ytmfgonddmodpmaagreat", sum := "2092afbdaaafe5c8a7ead51c1fea947bd71147515bb439798f5a9a4ac1261165", func := "loop.example/g01095/laws.FnExactVoicesFor", spec := "fnExactVoicesFor", inPlace := ["slices.overlaps[loop.example/g01095/impl.Article]"], unfollowed := true, recurses := true, apart := false }
def FnExactVoicesForSaid : Prop := fnExactVoicesForRow.holds Tryz.pinned (OpenSpec.ofChange fnExactVoicesForSpec)

/-- ITS FALSE NEIGHBOUR: 'it returns false'. Refute it at one input. -/
def fnExactVoicesForWrong : ChangeSpec := { name := "fnExactVoicesFor", fn := fun _ => fun
  | [d1, d2] => { results := [.lit (.bool false)], args := [d1, d2] }
  | _ => none }
def FnExactVoicesForWrongFalsely : Prop := fnExactVoicesForRow.holds Tryz.pinned (OpenSpec.ofChange fnExactVoicesForWrong)

/- THE SECOND FORM. 'bulk': how many values and letters a reading holds, each counted each time it is reached (what is shared counts as often as it is met; a slice's spare places count too). A statement '..UptoSaid' is the law's where the arguments, and the package variables that the reading takes, are together of bulk at most 1048576: NARROWER than '..Said'. Prove '..Said' where nothing that the law and all that it calls make is longer than what came in: it says more and counts as full. Else prove '..UptoSaid'. A law counts once. -/
mutual
def uptoBulk {H : Type} : DataW H → Nat
  | .lit (.string bytes) => bytes.length + 1
  | .lit _ => 1
  | .nil => 1
  | .ptr d => uptoBulk d + 1
  | .slice elems spare => uptoBulkAll elems + uptoBulkAll spare + 1
  | .agg parts => uptoBulkAll parts + 1
  | .iface _ d => uptoBulk d + 1
  | .map entries => uptoBulkEntries entries + 1
  | .held _ => 1
def uptoBulkAll {H : Type} : List (DataW H) → Nat
  | [] => 0
  | d :: r => uptoBulk d + uptoBulkAll r
def uptoBulkEntries {H : Type} : List (Lit × DataW H) → Nat
  | [] => 0
  | x :: r => uptoBulkEntry x + uptoBulkEntries r
def uptoBulkEntry {H : Type} : Lit × DataW H → Nat
  | (.string bytes, d) => bytes.length + uptoBulk d + 1
  | (_, d) => uptoBulk d + 1
 end
def uptoSmall : (H : Type) → List (DataW H) → Bool := fun _ ds => decide (uptoBulkAll ds ≤ 1048576)
def OpenSpec.upto (s : _root_.Go.ChangeSpec) : _root_.Go.OpenSpec := { _root_.Go.OpenSpec.ofChange s with cond := some uptoSmall }

/-- 'laws.FnExactValidAssembly', WHERE WHAT IT READS IS OF BULK AT MOST 1048576: true; the input reads as it did. -/
def fnExactValidAssemblyUptoRow : OpenClaim := { program := "ytmfgonddmodpmaagreat", sum := "2092afbdaaafe5c8a7ead51c1fea947bd71147515bb439798f5a9a4ac1261165", func := "loop.example/g01095/laws.FnExactValidAssembly", spec := "fnExactValidAssembly", inPlace := ["slices.overlaps[loop.example/g01095/impl.Article]"], unfollowed := true, recurses := true, apart := false, narrowed := true }
def FnExactValidAssemblyUptoSaid : Prop := fnExactValidAssemblyUptoRow.holds Tryz.pinned (OpenSpec.upto fnExactValidAssemblySpec)

/-- 'laws.FnExactTextToday', WHERE WHAT IT READS IS OF BULK AT MOST 1048576: true; the input reads as it did. -/
def fnExactTextTodayUptoRow : OpenClaim := { program := "ytmfgonddmodpmaagreat", sum := "2092afbdaaafe5c8a7ead51c1fea947bd71147515bb439798f5a9a4ac1261165", func := "loop.example/g01095/laws.FnExactTextToday", spec := "fnExactTextToday", inPlace := ["slices.overlaps[loop.example/g01095/impl.Article]"], unfollowed := true, recurses := true, apart := false, narrowed := true }
def FnExactTextTodayUptoSaid : Prop := fnExactTextTodayUptoRow.holds Tryz.pinned (OpenSpec.upto fnExactTextTodaySpec)

/-- 'laws.FnExactSameAssembly', WHERE WHAT IT READS IS OF BULK AT MOST 1048576: true; the input reads as it did. -/
def fnExactSameAssemblyUptoRow : OpenClaim := { program := "ytmfgonddmodpmaagreat", sum := "2092afbdaaafe5c8a7ead51c1fea947bd71147515bb439798f5a9a4ac1261165", func := "loop.example/g01095/laws.FnExactSameAssembly", spec := "fnExactSameAssembly", inPlace := ["slices.overlaps[loop.example/g01095/impl.Article]"], unfollowed := true, recurses := true, apart := false, narrowed := true }
def FnExactSameAssemblyUptoSaid : Prop := fnExactSameAssemblyUptoRow.holds Tryz.pinned (OpenSpec.upto fnExactSameAssemblySpec)

/-- 'laws.FnExactVoicesFor', WHERE WHAT IT READS IS OF BULK AT MOST 1048576: true; the input reads as it did. -/
def fnExactVoicesForUptoRow : OpenClaim := { program := "ytmfgonddmodpmaagreat", sum := "2092afbdaaafe5c8a7ead51c1fea947bd71147515bb439798f5a9a4ac1261165", func := "loop.example/g01095/laws.FnExactVoicesFor", spec := "fnExactVoicesFor", inPlace := ["slices.overlaps[loop.example/g01095/impl.Article]"], unfollowed := true, recurses := true, apart := false, narrowed := true }
def FnExactVoicesForUptoSaid : Prop := fnExactVoicesForUptoRow.holds Tryz.pinned (OpenSpec.upto fnExactVoicesForSpec)

end Rows
end Go.Proofs.YtmfgonddmodpmaaGreat
