/- The count, walked: the reference's. The count, walked: the program's. -/
import Derived.Test.YtbamlilnbhhcmaaDoorYC
namespace Go.Proofs.YtbamlilnbhhcmaaDoor
open Go.RowKit Go.Lib

def BehC (W w' : World) : Prop := Below W.heap.size W w'
def CountPost (a : Asm) (vs : List Int) (w : World) (e : Ending) (w' : World) : Prop :=
  ∃ g, e = .returned (.slice (some ⟨g, 0, none⟩) 4 4) ∧ OwnL intCells (countM a vs) w.heap.size w' (.slice (some ⟨g, 0, none⟩) 4 4) ∧ Below w.heap.size w w'
end Go.Proofs.YtbamlilnbhhcmaaDoor

namespace Go.Proofs.YtbamlilnbhhcmaaDoor
open Go.RowKit Go.Lib

end Go.Proofs.YtbamlilnbhhcmaaDoor
