/- Choices among numbers and names, walked: the reference's. -/
import Derived.Test.YtihhbkijcebapaaGc
import Derived.Test.YtihhbkijcebapaaQD
namespace Go.Proofs.Ytihhbkijcebapaa
open Go.RowKit Go.Lib

def AmongP (p : Int → Prop) (B : Nat) (w : World) (b k : Nat) (e : Ending) (w' : World) : Prop :=
  ∃ x : Int, p x ∧ e = .returned (.int .i64 x) ∧ Src B w' b k ∧ Only b w w'
theorem lit_intP (p : Int → Prop) (w : World) (t : TypeId) (L : List Int) (hL : ∀ x ∈ L, p x) (j : Nat) (hj : j < L.length) : ∃ x : Int, p x ∧ (w.alloc (.cells (L.map (fun x => Value.int .i64 x)).toArray t)).cell? ⟨w.heap.size, j, none⟩ = some (.int .i64 x) := by
  refine ⟨L[j], hL _ (List.getElem_mem hj), ?_⟩
  have := (Row.new w (L.map (fun x => Value.int .i64 x)).toArray t).cell j (.int .i64 L[j]) (by simp [List.getElem?_eq_getElem hj])
  exact this
/-- A name is drawn: a text of few bytes. -/
def NameL (l : List UInt8) : Prop := l.length ≤ 24
end Go.Proofs.Ytihhbkijcebapaa
