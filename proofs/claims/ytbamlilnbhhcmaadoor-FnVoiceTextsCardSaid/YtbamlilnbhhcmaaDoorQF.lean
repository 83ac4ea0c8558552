/- Arguments opened: an assembly (a struct of six fields; slices of slices, of articles, of acts, of motions). A statute, the reference's test of any; acts, the program's test of any; a base and acts, the reference's test of any. A motion, the reference's test, walked. slices.IndexFunc and ContainsFunc at int64 and at motions, walked; the votes of a motion, the program's test of a motion. An assembly, the reference's test, walked. An assembly, the program's test, walked. An assembly, the program's test, walked whole. Equality of assemblies, walked: the statements' own functions. -/
import Derived.Test.YtbamlilnbhhcmaaDoorQE
import Derived.Test.YtbamlilnbhhcmaaDoorQC
import Derived.Test.YtbamlilnbhhcmaaDoorQB
import Derived.Deep.RegionHeld3
namespace Go.Proofs.YtbamlilnbhhcmaaDoor
open Go.Joins Go.ChangeShapes Go.WideShapes Go.RowKit Go.Deep

section
variable {H : Type} {enc : TypeId × Value → H} {P : Program} {w : World} {base : Nat} {spare : Nat → Bool} {held : Bool}
end
section
variable {H : Type} {enc : TypeId × Value → H} {P : Program} {w : World} {base fuel : Nat} {held : Bool} {x : DataW H × List MemPlace}
end
section
variable {H : Type} {enc : TypeId × Value → H} {w : World} {held : Bool}
end
end Go.Proofs.YtbamlilnbhhcmaaDoor

namespace Go.Proofs.YtbamlilnbhhcmaaDoor
open Go.RowKit Go.Lib

end Go.Proofs.YtbamlilnbhhcmaaDoor

namespace Go.Proofs.YtbamlilnbhhcmaaDoor
open Go.RowKit Go.Lib

end Go.Proofs.YtbamlilnbhhcmaaDoor

namespace Go.Proofs.YtbamlilnbhhcmaaDoor
open Go.RowKit Go.Lib

def idxG {α : Type} (p : α → Bool) (L : List α) : Int := match L.findIdx? p with | some k => (k : Int) | none => -1
/-- Tests that turn nothing. -/
def PredI (g : Nat) (lb : Array Value) (p : Int → Bool) (w : World) : Prop :=
  ∀ (W : World) (x : Int), Below w.heap.size w W → Calls Tryd.prog g (#[.int .i64 x] ++ lb) W (RetB (.bool (p x)) W)
def PredM (g : Nat) (lb : Array Value) (p : Mot → Bool) (w : World) : Prop :=
  ∀ (W : World) (m : Mot) (v1 v2 : Value), Below w.heap.size w W → Calls Tryd.prog g (#[.agg #[.string m.title, .int .i64 m.author, v1, .int .i64 m.beg, .int .i64 m.fin, .int .i64 m.closes, v2, .int .i64 m.result]] ++ lb) W (RetB (.bool (p m)) W)

end Go.Proofs.YtbamlilnbhhcmaaDoor

namespace Go.Proofs.YtbamlilnbhhcmaaDoor
open Go.RowKit Go.Lib

end Go.Proofs.YtbamlilnbhhcmaaDoor

namespace Go.Proofs.YtbamlilnbhhcmaaDoor
open Go.RowKit Go.Lib

end Go.Proofs.YtbamlilnbhhcmaaDoor

namespace Go.Proofs.YtbamlilnbhhcmaaDoor
open Go.RowKit Go.Lib

theorem Mots.take {w : World} {B : Nat} {A : Option Addr} {n c : Nat} {ls : List Mot} (h : Mots w B (.slice A n c) ls) (k : Nat) (hk : k ≤ ls.length) : Mots w B (.slice A k c) (ls.take k) := by
  obtain ⟨L, rfl, h2, h3⟩ := h
  rw [List.length_map] at hk
  exact ⟨L.take k, by rw [List.map_take], SlR.take h2 k hk, fun x hx => h3 x (List.mem_of_mem_take hx)⟩
end Go.Proofs.YtbamlilnbhhcmaaDoor

namespace Go.Proofs.YtbamlilnbhhcmaaDoor
open Go.RowKit Go.Lib

end Go.Proofs.YtbamlilnbhhcmaaDoor
