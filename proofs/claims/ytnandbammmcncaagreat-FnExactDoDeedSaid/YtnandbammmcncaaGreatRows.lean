/-
  No cell of these rows narrows 'for every input' (looked for: loops, veiled, ifaces, maps, wideKeys, modest, calm, conditions, laid).
  DERIVED. THE GIVEN ROWS OF THIS SEAT. 8 by the template 'for every input the law returns true; each argument reads behind the call as it read before'; 0 by the template 'total and deterministic' (their statements: YtnandbammmcncaaGreatTotals.lean).
  GIVEN WITH THE SEED: the statements are not yours to turn. If you find one false, say at which input.
  Laid BY PROGRAM, IN A SANDBOX (cutbox-rows.mjs): the forced cells as the released guide's own fill.sh prints them over the translation dda956edf29b6cf8… (all of the seat's roots in one cut). By AI agents, Wed Nov 11 2026. No macro, syntax, notation, axiom, sorry.
-/
import Derived.Test.YtnandbammmcncaaGreatChecked
import GoSem.Claim
import GoSem.ClaimJoined
import GoSem.ClaimMapViews
import Derived.JoinedTies
import Derived.KernelRfl
namespace Go.Proofs.YtnandbammmcncaaGreat
/- THE CELL 'sum', in the pinned program and in every row, IS THE sha256 OF THE DUMP (.gsa) THAT YtnandbammmcncaaGreatProg.lean LOADS. Nothing in Lean hashes anything: it is a label: what it is worth is what the hold of that sum in a sandbox is worth. -/
noncomputable def Tryz.pinned : Pinned := { name := "ytnandbammmcncaagreat", sum := "dda956edf29b6cf8b529441b5777f5ca45554c98070208fc6fb0673e01d1c5e0", checked := Tryz.checked }
namespace Rows
def none {H : Type} : Left H := { results := [], args := [] }

/-- 'laws.FnExactCountedFor': WHATEVER THE INPUT: true; the input reads as it did. -/
def fnExactCountedForSpec : ChangeSpec := { name := "fnExactCountedFor", fn := fun _ => fun
  | [d1, d2, d3] => { results := [.lit (.bool true)], args := [d1, d2, d3] }
  | _ => none }
def fnExactCountedForRow : OpenClaim := { program := "ytnandbammmcncaagreat", sum := "dda956edf29b6cf8b529441b5777f5ca45554c98070208fc6fb0673e01d1c5e0", func := "loop.example/g01095/laws.FnExactCountedFor", spec := "fnExactCountedFor", inPlace := ["slices.overlaps[loop.example/g01095/impl.Article]"], unfollowed := true, recurses := true, apart := false }
def FnExactCountedForSaid : Prop := fnExactCountedForRow.holds Tryz.pinned (OpenSpec.ofChange fnExactCountedForSpec)

/-- ITS FALSE NEIGHBOUR: 'it returns false'. Refute it at one input. -/
def fnExactCountedForWrong : ChangeSpec := { name := "fnExactCountedFor", fn := fun _ => fun
  | [d1, d2, d3] => { results := [.lit (.bool false)], args := [d1, d2, d3] }
  | _ => none }
def FnExactCountedForWrongFalsely : Prop := fnExactCountedForRow.holds Tryz.pinned (OpenSpec.ofChange fnExactCountedForWrong)

/-- 'laws.FnExactVerdictOf': WHATEVER THE INPUT: true; the input reads as it did. -/
def fnExactVerdictOfSpec : ChangeSpec := { name := "fnExactVerdictOf", fn := fun _ => fun
  | [d1, d2] => { results := [.lit (.bool true)], args := [d1, d2] }
  | _ => none }
def fnExactVerdictOfRow : OpenClaim := { program := "ytnandbammmcncaagreat", sum := "dda956edf29b6cf8b529441b5777f5ca45554c98070208fc6fb0673e01d1c5e0", func := "loop.example/g01095/laws.FnExactVerdictOf", spec := "fnExactVerdictOf", inPlace := ["slices.overlaps[loop.example/g01095/impl.Article]", "slices.overlaps[loop.example/g01095/impl.Act]"], unfollowed := true, recurses := true, apart := false }
def FnExactVerdictOfSaid : Prop := fnExactVerdictOfRow.holds Tryz.pinned (OpenSpec.ofChange fnExactVerdictOfSpec)

/-- ITS FALSE NEIGHBOUR: 'it returns false'. Refute it at one input. -/
def fnExactVerdictOfWrong : ChangeSpec := { name := "fnExactVerdictOf", fn := fun _ => fun
  | [d1, d2] => { results := [.lit (.bool false)], args := [d1, d2] }
  | _ => none }
def FnExactVerdictOfWrongFalsely : Prop := fnExactVerdictOfRow.holds Tryz.pinned (OpenSpec.ofChange fnExactVerdictOfWrong)

/-- 'laws.FnExactCountOf': WHATEVER THE INPUT: true; the input reads as it did. -/
def fnExactCountOfSpec : ChangeSpec := { name := "fnExactCountOf", fn := fun _ => fun
  | [d1, d2] => { results := [.lit (.bool true)], args := [d1, d2] }
  | _ => none }
def fnExactCountOfRow : OpenClaim := { program := "ytnandbammmcncaagreat", sum := "dda956edf29b6cf8b529441b5777f5ca45554c98070208fc6fb0673e01d1c5e0", func := "loop.example/g01095/laws.FnExactCountOf", spec := "fnExactCountOf", inPlace := ["slices.overlaps[loop.example/g01095/impl.Article]"], unfollowed := true, recurses := true, apart := false }
def FnExactCountOfSaid : Prop := fnExactCountOfRow.holds Tryz.pinned (OpenSpec.ofChange fnExactCountOfSpec)

/-- ITS FALSE NEIGHBOUR: 'it returns false'. Refute it at one input. -/
def fnExactCountOfWrong : ChangeSpec := { name := "fnExactCountOf", fn := fun _ => fun
  | [d1, d2] => { results := [.lit (.bool false)], args := [d1, d2] }
  | _ => none }
def FnExactCountOfWrongFalsely : Prop := fnExactCountOfRow.holds Tryz.pinned (OpenSpec.ofChange fnExactCountOfWrong)

/-- 'laws.FnExactCountWithout': WHATEVER THE INPUT: true; the input reads as it did. -/
def fnExactCountWithoutSpec : ChangeSpec := { name := "fnExactCountWithout", fn := fun _ => fun
  | [d1, d2, d3] => { results := [.lit (.bool true)], args := [d1, d2, d3] }
  | _ => none }
def fnExactCountWithoutRow : OpenClaim := { program := "ytnandbammmcncaagreat", sum := "dda956edf29b6cf8b529441b5777f5ca45554c98070208fc6fb0673e01d1c5e0", func := "loop.example/g01095/laws.FnExactCountWithout", spec := "fnExactCountWithout", inPlace := ["slices.overlaps[loop.example/g01095/impl.Article]"], unfollowed := true, recurses := true, apart := false }
def FnExactCountWithoutSaid : Prop := fnExactCountWithoutRow.holds Tryz.pinned (OpenSpec.ofChange fnExactCountWithoutSpec)

/-- ITS FALSE NEIGHBOUR: 'it returns false'. Refute it at one input. -/
def fnExactCountWithoutWrong : ChangeSpec := { name := "fnExactCountWithout", fn := fun _ => fun
  | [d1, d2, d3] => { results := [.lit (.bool false)], args := [d1, d2, d3] }
  | _ => none }
def FnExactCountWithoutWrongFalsely : Prop := fnExactCountWithoutRow.holds Tryz.pinned (OpenSpec.ofChange fnExactCountWithoutWrong)

/-- 'laws.FnExactLeadersOf': WHATEVER THE INPUT: true; the input reads as it did. -/
def fnExactLeadersOfSpec : ChangeSpec := { name := "fnExactLeadersOf", fn := fun _ => fun
  | [d1, d2] => { results := [.lit (.bool true)], args := [d1, d2] }
  | _ => none }
def fnExactLeadersOfRow : OpenClaim := { program := "ytnandbammmcncaagreat", sum := "dda956edf29b6cf8b529441b5777f5ca45554c98070208fc6fb0673e01d1c5e0", func := "loop.example/g01095/laws.FnExactLeadersOf", spec := "fnExactLeadersOf", inPlace := ["slices.overlaps[loop.example/g01095/impl.Article]"], unfollowed := true, recurses := true, apart := false }
def FnExactLeadersOfSaid : Prop := fnExactLeadersOfRow.holds Tryz.pinned (OpenSpec.ofChange fnExactLeadersOfSpec)

/-- ITS FALSE NEIGHBOUR: 'it returns false'. Refute it at one input. -/
def fnExactLeadersOfWrong : ChangeSpec := { name := "fnExactLeadersOf", fn := fun _ => fun
  | [d1, d2] => { results := [.lit (.bool false)], args := [d1, d2] }
  | _ => none }
def FnExactLeadersOfWrongFalsely : Prop := fnExactLeadersOfRow.holds Tryz.pinned (OpenSpec.ofChange fnExactLeadersOfWrong)

/-- 'laws.FnExactSwingMembers': WHATEVER THE INPUT: true; the input reads as it did. -/
def fnExactSwingMembersSpec : ChangeSpec := { name := "fnExactSwingMembers", fn := fun _ => fun
  | [d1, d2] => { results := [.lit (.bool true)], args := [d1, d2] }
  | _ => none }
def fnExactSwingMembersRow : OpenClaim := { program := "ytnandbammmcncaagreat", sum := "dda956edf29b6cf8b529441b5777f5ca45554c98070208fc6fb0673e01d1c5e0", func := "loop.example/g01095/laws.FnExactSwingMembers", spec := "fnExactSwingMembers", inPlace := ["slices.overlaps[loop.example/g01095/impl.Article]", "slices.overlaps[loop.example/g01095/impl.Act]"], unfollowed := true, recurses := true, apart := false }
def FnExactSwingMembersSaid : Prop := fnExactSwingMembersRow.holds Tryz.pinned (OpenSpec.ofChange fnExactSwingMembersSpec)

/-- ITS FALSE NEIGHBOUR: 'it returns false'. Refute it at one input. -/
def fnExactSwingMembersWrong : ChangeSpec := { name := "fnExactSwingMembers", fn := fun _ => fun
  | [d1, d2] => { results := [.lit (.bool false)], args := [d1, d2] }
  | _ => none }
def FnExactSwingMembersWrongFalsely : Prop := fnExactSwingMembersRow.holds Tryz.pinned (OpenSpec.ofChange fnExactSwingMembersWrong)

/-- 'laws.FnExactDoDeed': WHATEVER THE INPUT: true; the input reads as it did. -/
def fnExactDoDeedSpec : ChangeSpec := { name := "fnExactDoDeed", fn := fun _ => fun
  | [d1, d2] => { results := [.lit (.bool true)], args := [d1, d2] }
  | _ => none }
def fnExactDoDeedRow : OpenClaim := { program := "ytnandbammmcncaagreat", sum := "dda956edf29b6cf8b529441b5777f5ca45554c98070208fc6fb0673e01d1c5e0", func := "loop.example/g01095/laws.FnExactDoDeed", spec := "fnExactDoDeed", inPlace := ["slices.overlaps[loop.example/g01095/impl.Article]", "slices.overlaps[loop.example/g01095/impl.Act]"], unfollowed := true, recurses := true, apart := false }
def FnExactDoDeedSaid : Prop := fnExactDoDeedRow.holds Tryz.pinned (OpenSpec.ofChange fnExactDoDeedSpec)

/-- ITS FALSE NEIGHBOUR: 'it returns false'. Refute it at one input. -/
def fnExactDoDeedWrong : ChangeSpec := { name := "fnExactDoDeed", fn := fun _ => fun
  | [d1, d2] => { results := [.lit (.bool false)], args := [d1, d2] }
  | _ => none }
def FnExactDoDeedWrongFalsely : Prop := fnExactDoDeedRow.holds Tryz.pinned (OpenSpec.ofChange fnExactDoDeedWrong)

/-- 'laws.FnExactDoDeeds': WHATEVER THE INPUT: true; the input reads as it did. -/
def fnExactDoDeedsSpec : ChangeSpec := { name := "fnExactDoDeeds", fn := fun _ => fun
  | [d1, d2] => { results := [.lit (.bool true)], args := [d1, d2] }
  | _ => none }
def fnExactDoDeedsRow : OpenClaim := { program := "ytnandbammmcncaagreat", sum := "dda956edf29b6cf8b529441b5777f5ca45554c98070208fc6fb0673e01d1c5e0", func := "loop.example/g01095/laws.FnExactDoDeeds", spec := "fnExactDoDeeds", inPlace := ["slices.overlaps[loop.example/g01095/impl.Article]", "slices.overlaps[loop.example/g01095/impl.Act]"], unfollowed := true, recurses := true, apart := false }
def FnExactDoDeedsSaid : Prop := fnExactDoDeedsRow.holds Tryz.pinned (OpenSpec.ofChange fnExactDoDeedsSpec)

/-- ITS FALSE NEIGHBOUR: 'it returns false'. Refute it at one input. -/
def fnExactDoDeedsWrong : ChangeSpec := { name := "fnExactDoDeeds", fn := fun _ => fun
  | [d1, d2] => { results := [.lit (.bool false)], args := [d1, d2] }
  | _ => none }
def FnExactDoDeedsWrongFalsely : Prop := fnExactDoDeedsRow.holds Tryz.pinned (OpenSpec.ofChange fnExactDoDeedsWrong)

/- THE SECOND FORM. 'bulk': how many values and letters a reading holds, each counted each time it is reached (what is shared counts as often as it is met; a slice's spare places count too). A statement '..UptoSaid' is the law's where the arguments, and the package variables that the reading takes, are together of bulk at most 1048576: NARROWER than '..Said'. Prove '..Said' where nothing that the law and all that it calls make is longer than what came in: it says more and counts as full. Else prove '..UptoSaid'. A law counts once. -/
mutual
def uptoBulk {H : Type} : DataW H → Nat
  | .lit (.string bytes) => bytes.length + 1
  | .lit _ => 1
  | .nil => 1
  | .ptr d => uptoBulk d + 1
  | .slice elems spare => uptoBulkAll elems + uptoBulkAll spare + 1
  | .agg parts => uptoBulkAll parts + 1
  | .iface _ d => uptoBulk d + 1
  | .map entries => uptoBulkEntries entries + 1
  | .held _ => 1
def uptoBulkAll {H : Type} : List (DataW H) → Nat
  | [] => 0
  | d :: r => uptoBulk d + uptoBulkAll r
def uptoBulkEntries {H : Type} : List (Lit × DataW H) → Nat
  | [] => 0
  | x :: r => uptoBulkEntry x + uptoBulkEntries r
def uptoBulkEntry {H : Type} : Lit × DataW H → Nat
  | (.string bytes, d) => bytes.length + uptoBulk d + 1
  | (_, d) => uptoBulk d + 1
 end
def uptoSmall : (H : Type) → List (DataW H) → Bool := fun _ ds => decide (uptoBulkAll ds ≤ 1048576)
def OpenSpec.upto (s : _root_.Go.ChangeSpec) : _root_.Go.OpenSpec := { _root_.Go.OpenSpec.ofChange s with cond := some uptoSmall }

/-- 'laws.FnExactCountedFor', WHERE WHAT IT READS IS OF BULK AT MOST 1048576: true; the input reads as it did. -/
def fnExactCountedForUptoRow : OpenClaim := { program := "ytnandbammmcncaagreat", sum := "dda956edf29b6cf8b529441b5777f5ca45554c98070208fc6fb0673e01d1c5e0", func := "loop.example/g01095/laws.FnExactCountedFor", spec := "fnExactCountedFor", inPlace := ["slices.overlaps[loop.example/g01095/impl.Article]"], unfollowed := true, recurses := true, apart := false, narrowed := true }
def FnExactCountedForUptoSaid : Prop := fnExactCountedForUptoRow.holds Tryz.pinned (OpenSpec.upto fnExactCountedForSpec)

/-- 'laws.FnExactVerdictOf', WHERE WHAT IT READS IS OF BULK AT MOST 1048576: true; the input reads as it did. -/
def fnExactVerdictOfUptoRow : OpenClaim := { program := "ytnandbammmcncaagreat", sum := "dda956edf29b6cf8b529441b5777f5ca45554c98070208fc6fb0673e01d1c5e0", func := "loop.example/g01095/laws.FnExactVerdictOf", spec := "fnExactVerdictOf", inPlace := ["slices.overlaps[loop.example/g01095/impl.Article]", "slices.overlaps[loop.example/g01095/impl.Act]"], unfollowed := true, recurses := true, apart := false, narrowed := true }
def FnExactVerdictOfUptoSaid : Prop := fnExactVerdictOfUptoRow.holds Tryz.pinned (OpenSpec.upto fnExactVerdictOfSpec)

/-- 'laws.FnExactCountOf', WHERE WHAT IT READS IS OF BULK AT MOST 1048576: true; the input reads as it did. -/
def fnExactCountOfUptoRow : OpenClaim := { program := "ytnandbammmcncaagreat", sum := "dda956edf29b6cf8b529441b5777f5ca45554c98070208fc6fb0673e01d1c5e0", func := "loop.example/g01095/laws.FnExactCountOf", spec := "fnExactCountOf", inPlace := ["slices.overlaps[loop.example/g01095/impl.Article]"], unfollowed := true, recurses := true, apart := false, narrowed := true }
def FnExactCountOfUptoSaid : Prop := fnExactCountOfUptoRow.holds Tryz.pinned (OpenSpec.upto fnExactCountOfSpec)

/-- 'laws.FnExactCountWithout', WHERE WHAT IT READS IS OF BULK AT MOST 1048576: true; the input reads as it did. -/
def fnExactCountWithoutUptoRow : OpenClaim := { program := "ytnandbammmcncaagreat", sum := "dda956edf29b6cf8b529441b5777f5ca45554c98070208fc6fb0673e01d1c5e0", func := "loop.example/g01095/laws.FnExactCountWithout", spec := "fnExactCountWithout", inPlace := ["slices.overlaps[loop.example/g01095/impl.Article]"], unfollowed := true, recurses := true, apart := false, narrowed := true }
def FnExactCountWithoutUptoSaid : Prop := fnExactCountWithoutUptoRow.holds Tryz.pinned (OpenSpec.upto fnExactCountWithoutSpec)

/-- 'laws.FnExactLeadersOf', WHERE WHAT IT READS IS OF BULK AT MOST 1048576: true; the input reads as it did. -/
def fnExactLeadersOfUptoRow : OpenClaim := { program := "ytnandbammmcncaagreat", sum := "dda956edf29b6cf8b529441b5777f5ca45554c98070208fc6fb0673e01d1c5e0", func := "loop.example/g01095/laws.FnExactLeadersOf", spec := "fnExactLeadersOf", inPlace := ["slices.overlaps[loop.example/g01095/impl.Article]"], unfollowed := true, recurses := true, apart := false, narrowed := true }
def FnExactLeadersOfUptoSaid : Prop := fnExactLeadersOfUptoRow.holds Tryz.pinned (OpenSpec.upto fnExactLeadersOfSpec)

/-- 'laws.FnExactSwingMembers', WHERE WHAT IT READS IS OF BULK AT MOST 1048576: true; the input reads as it did. -/
def fnExactSwingMembersUptoRow : OpenClaim := { program := "ytnandbammmcncaagreat", sum := "dda956edf29b6cf8b529441b5777f5ca45554c98070208fc6fb0673e01d1c5e0", func := "loop.example/g01095/laws.FnExactSwingMembers", spec := "fnExactSwingMembers", inPlace := ["slices.overlaps[loop.example/g01095/impl.Article]", "slices.overlaps[loop.example/g01095/impl.Act]"], unfollowed := true, recurses := true, apart := false, narrowed := true }
def FnExactSwingMembersUptoSaid : Prop := fnExactSwingMembersUptoRow.holds Tryz.pinned (OpenSpec.upto fnExactSwingMembersSpec)

/-- 'laws.FnExactDoDeed', WHERE WHAT IT READS IS OF BULK AT MOST 1048576: true; the input reads as it did. -/
def fnExactDoDeedUptoRow : OpenClaim := { program := "ytnandbammmcncaagreat", sum := "dda956edf29b6cf8b529441b5777f5ca45554c98070208fc6fb0673e01d1c5e0", func := "loop.example/g01095/laws.FnExactDoDeed", spec := "fnExactDoDeed", inPlace := ["slices.overlaps[loop.example/g01095/impl.Article]", "slices.overlaps[loop.example/g01095/impl.Act]"], unfollowed := true, recurses := true, apart := false, narrowed := true }
def FnExactDoDeedUptoSaid : Prop := fnExactDoDeedUptoRow.holds Tryz.pinned (OpenSpec.upto fnExactDoDeedSpec)

/-- 'laws.FnExactDoDeeds', WHERE WHAT IT READS IS OF BULK AT MOST 1048576: true; the input reads as it did. -/
def fnExactDoDeedsUptoRow : OpenClaim := { program := "ytnandbammmcncaagreat", sum := "dda956edf29b6cf8b529441b5777f5ca45554c98070208fc6fb0673e01d1c5e0", func := "loop.example/g01095/laws.FnExactDoDeeds", spec := "fnExactDoDeeds", inPlace := ["slices.overlaps[loop.example/g01095/impl.Article]", "slices.overlaps[loop.example/g01095/impl.Act]"], unfollowed := true, recurses := true, apart := false, narrowed := true }
def FnExactDoDeedsUptoSaid : Prop := fnExactDoDeedsUptoRow.holds Tryz.pinned (OpenSpec.upto fnExactDoDeedsSpec)

end Rows
end Go.Proofs.YtnandbammmcncaaGreat
