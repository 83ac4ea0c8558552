/- With whom all ballots are settled, the reference's, walked. The distances, the program's, walked. The best path, the program's, walked. The best path, the program's, walked: the rules by cost. With whom all ballots are settled, the program's, walked. -/
import Derived.Test.YtbamlilnbhhcmaaDoorYB
import Derived.StillTailTactics
import Derived.Laws.OwnMore
namespace Go.Proofs.YtbamlilnbhhcmaaDoor
open Go.RowKit Go.Lib

/-- Numbers of the call's own, in a block. -/
def NumO (w : World) (base g cap : Nat) (L : List Int) : Prop := w.ownsRow base 2 1 (.slice (some ⟨g, 0, none⟩) L.length cap) L.length (L.flatMap intCells)
theorem NumO.row {w : World} {base g cap : Nat} {L : List Int} (h : NumO w base g cap L) : w.ownsRow base 2 1 (.slice (some ⟨g, 0, none⟩) L.length cap) L.length (L.flatMap intCells) := h
theorem NumO.below {w w' : World} {base g cap : Nat} {L : List Int} (h : NumO w base g cap L) (hb : Below w.heap.size w w') : NumO w' base g cap L := own_below h hb
theorem NumO.own {w : World} {base g cap : Nat} {L : List Int} (h : NumO w base g cap L) : OwnL intCells L base w (.slice (some ⟨g, 0, none⟩) L.length cap) := OwnL.of_own intCells (size := 1) (fun _ => rfl) h
theorem NumO.ints {w : World} {base g cap : Nat} {L : List Int} (h : NumO w base g cap L) : Ints w w.heap.size (.slice (some ⟨g, 0, none⟩) L.length cap) L := h.own.slR (size := 1) (fun _ => rfl)
theorem NumO.start (w : World) : NumO (w.alloc (.cells #[] 2)) w.heap.size w.heap.size 0 [] := by
  unfold NumO
  simpa using World.ownsRow_made w #[] 0 (Nat.le_refl _) (Nat.zero_le _) rfl
def EndsTo (g : Gr) (rule : Int) (L : List Int) : Prop := ∀ (j : Nat) (e : Int), L[j]? = some e → IsEnd g rule j e
theorem EndsTo.push {g : Gr} {rule : Int} {L : List Int} {e : Int} (h : EndsTo g rule L) (he : IsEnd g rule L.length e) : EndsTo g rule (L ++ [e]) := fun j e' hj => by
  rcases Nat.lt_or_ge j L.length with hl | hl
  · rw [List.getElem?_append_left hl] at hj
    exact h j e' hj
  · have hj2 := (List.getElem?_eq_some_iff.1 hj).1
    rw [List.length_append, List.length_singleton] at hj2
    have : j = L.length := by omega
    subst this
    rw [List.getElem?_append_right (Nat.le_refl _), Nat.sub_self] at hj
    injection hj with hj
    rw [← hj]
    exact he
/-- The ends of all ballots in memory. -/
def SettlePost (V : List Voi) (rule : Int) (w : World) (e : Ending) (w' : World) : Prop :=
  ∃ g cap, e = .returned (.slice (some ⟨g, 0, none⟩) V.length cap) ∧ (endsL V rule).length = V.length ∧ (∀ (j : Nat) (x : Int), (endsL V rule)[j]? = some x → IsEnd (grV V) rule j x) ∧ NumO w' w.heap.size g cap (endsL V rule) ∧ Below w.heap.size w w'

end Go.Proofs.YtbamlilnbhhcmaaDoor

namespace Go.Proofs.YtbamlilnbhhcmaaDoor
open Go.RowKit Go.Lib

def DistPost (V : List Voi) (c : Nat → Int) (w : World) (e : Ending) (w' : World) : Prop :=
  ∃ g, w.heap.size ≤ g ∧ g < w'.heap.size ∧ e = .returned (.slice (some ⟨g, 0, none⟩) V.length V.length) ∧ Row w' g (costL (runI (grV V) [] c V.length) V.length) ∧ Below w.heap.size w w'
/-- The least costs on the way. -/
def begI (g : Gr) (k : Nat) : Nat → Int := fun j => if j < k then initI g [] j else 0
end Go.Proofs.YtbamlilnbhhcmaaDoor

namespace Go.Proofs.YtbamlilnbhhcmaaDoor
open Go.RowKit Go.Lib

/-- A later world. -/
def Beh (W w' : World) : Prop := Below W.heap.size W w'
def Best2Post (V : List Voi) (rule : Int) (m : Nat) (w : World) (e : Ending) (w' : World) : Prop :=
  (e = .returned (.slice none 0 0) ∧ BestP (grV V) rule m [] ∧ Below w.heap.size w w') ∨
  ∃ p g c, e = .returned (.slice (some ⟨g, 0, none⟩) p.length c) ∧ BestP (grV V) rule m p ∧ p ≠ [] ∧ OwnL intCells (barL p) w.heap.size w' (.slice (some ⟨g, 0, none⟩) p.length c) ∧ Below w.heap.size w w'

end Go.Proofs.YtbamlilnbhhcmaaDoor

namespace Go.Proofs.YtbamlilnbhhcmaaDoor
open Go.RowKit Go.Lib

end Go.Proofs.YtbamlilnbhhcmaaDoor

namespace Go.Proofs.YtbamlilnbhhcmaaDoor
open Go.RowKit Go.Lib

def Settle2Post (V : List Voi) (rule : Int) (w : World) (e : Ending) (w' : World) : Prop :=
  ∃ g cap, e = .returned (.tuple #[.slice (some ⟨g, 0, none⟩) V.length cap, .bool true]) ∧ (endsL V rule).length = V.length ∧ (∀ (j : Nat) (x : Int), (endsL V rule)[j]? = some x → IsEnd (grV V) rule j x) ∧ NumO w' w.heap.size g cap (endsL V rule) ∧ Below w.heap.size w w'
theorem NumO.less {w : World} {b base g cap : Nat} {L : List Int} (h : NumO w base g cap L) (hb : b ≤ base) : NumO w b g cap L := by
  obtain ⟨h1, h2 | ⟨g', c, cur, e, h3, h4⟩⟩ := h
  · exact ⟨h1, .inl h2⟩
  · exact ⟨h1, .inr ⟨g', c, cur, e, Nat.le_trans hb h3, h4⟩⟩
end Go.Proofs.YtbamlilnbhhcmaaDoor
