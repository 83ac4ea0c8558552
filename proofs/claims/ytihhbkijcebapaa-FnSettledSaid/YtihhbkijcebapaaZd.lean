/- An assembly being copied: how it stands behind each member and each motion. -/
import Derived.Test.YtihhbkijcebapaaZc
namespace Go.Proofs.Ytihhbkijcebapaa
open Go.RowKit Go.Lib

theorem Try.infoRw : (Try.prog.info? 30).map (fun i => (i.zero, i.size, i.bytes)) = some (some (.slice none 0 0), 1, 24) := by kernel_rfl
theorem mot_oneZ {y : VMot} {A1 A2 : Option Addr} {n1 n2 c1 c2 : Nat} (h1 : y.p = .slice A1 n1 c1) (h2 : y.t = .slice A2 n2 c2) {u : Value} (hu : u ∈ mCells y) : u.oneCell' = true := by
  unfold mCells at hu
  rw [h1, h2] at hu
  simp only [List.mem_cons, List.not_mem_nil, or_false] at hu
  rcases hu with rfl | rfl | rfl | rfl | rfl | rfl | rfl | rfl <;> rfl
theorem artTreeZ {base : Nat} {w : World} {v : Value} {L : List Art} (h : OwnL artCells L base w v) : TreeO kArt base w v L :=
  ⟨h, fun _ _ => trivial, fun _ _ _ h => h.elim, List.pairwise_of_forall (fun _ _ _ h => h.elim)⟩
end Go.Proofs.Ytihhbkijcebapaa
