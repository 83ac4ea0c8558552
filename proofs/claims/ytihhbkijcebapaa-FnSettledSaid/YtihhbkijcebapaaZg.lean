/- The day of an assembly of the call's own: what is held, store by store; walked: the reference's. -/
import Derived.Test.YtihhbkijcebapaaZa
import Derived.Test.YtihhbkijcebapaaZd
import Derived.StillTailTactics
import Derived.Great.Walk
namespace Go.Proofs.Ytihhbkijcebapaa
open Go.RowKit Go.Lib

/-- One motion of it. -/
structure MotAt (w : World) (x : VAsm) (M : List VMot) (k : Nat) (m : Mot) (g cap : Nat) (y : VMot) (A1 : Option Addr) (c1 : Nat) (A2 : Option Addr) (c2 : Nat) : Prop where
  get : M[k]? = some y
  mot : y.a = m
  row : x.m = .slice (some ⟨g, 0, none⟩) M.length cap
  p : y.p = .slice A1 m.pat.length c1
  t : y.t = .slice A2 m.votes.length c2
  c1m : c1 ≤ maxLen
  c2m : c2 ≤ maxLen
  cell : ∀ i u, (mCells y)[i]? = some u → w.cell? ⟨g, k * 8 + i, none⟩ = some u ∧ w.frozen? ⟨g, k * 8 + i, none⟩ = false
  lt : g < w.heap.size
  edits : Edits w w.heap.size y.p m.pat
  ints : Ints w w.heap.size y.t m.votes
theorem verM_mots (b : Asm) (L : List Mot) (m : Mot) (vs : List Int) : verM { b with mots := L } m vs = verM b m vs := rfl
end Go.Proofs.Ytihhbkijcebapaa
