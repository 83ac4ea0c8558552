/- An assembly at its beginning, drawn: walked. -/
import Derived.Test.YtihhbkijcebapaaGd
import Derived.Test.YtihhbkijcebapaaZd
import Derived.Test.YtihhbkijcebapaaZh
namespace Go.Proofs.Ytihhbkijcebapaa
open Go.RowKit Go.Lib

theorem only_touch {b : Nat} {w w' : World} (h : Only b w w') : Touch (fun c => c = b) w w' := ⟨h.os, h.tape, h.output, h.size, fun i hi hn => h.block i hi (fun e => hn (by injection e))⟩
/-- Stores into a block made since. -/
theorem only_trans' {b gd : Nat} {w w1 w2 : World} (h : Only b w w1) (ht : Touch (fun c => c = gd) w1 w2) (hg : w.heap.size ≤ gd) : Only b w w2 :=
  ⟨ht.os.trans h.os, ht.tape.trans h.tape, ht.output.trans h.output, Nat.le_trans h.size ht.size, fun i hi hn => (ht.block i (Nat.lt_of_lt_of_le hi h.size) (by omega)).trans (h.block i hi hn)⟩
def newA (rule : Int) (L : List (List Int)) (S : List Art) : Asm := ⟨0, rule, L, S, [], []⟩
end Go.Proofs.Ytihhbkijcebapaa
