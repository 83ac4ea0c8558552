/- The count, walked: the reference's. The count, walked: the program's. -/
import Derived.Test.YtihhbkijcebapaaYC
namespace Go.Proofs.Ytihhbkijcebapaa
open Go.RowKit Go.Lib

def BehC (W w' : World) : Prop := Below W.heap.size W w'
theorem BehC.go {W a b : World} (h2 : Below a.heap.size a b) (h1 : BehC W a) : BehC W b := Below.trans h1 (Below.mono h2 (Below.size h1))
theorem BehC.draw {W a : World} (h1 : BehC W a) : BehC W a.drew := Below.drew h1
theorem map_getD {C : List Int} {s : Nat} (h : s < C.length) : (C.map (Value.int .i64))[s]? = some (.int .i64 (C.getD s 0)) := by
  rw [List.getElem?_map, List.getD_eq_getElem?_getD, List.getElem?_eq_getElem h]
  rfl
theorem Touch.cellAt {F : Nat → Prop} {w w' : World} (h : Touch F w w') {b o : Nat} {v : Value} (hc : w.cell? ⟨b, o, none⟩ = some v) (hF : ¬ F b) : w'.cell? ⟨b, o, none⟩ = some v :=
  (World.cell?_of_block (a := ⟨b, o, none⟩) (h.block b (World.block_lt_of_cell? w _ hc) hF)).trans hc
theorem NumO.at {w : World} {base g cap k : Nat} {L : List Int} {z : Int} (h : NumO w base g cap L) (hk : L[k]? = some z) : w.cell? ⟨g, k, none⟩ = some (.int .i64 z) := by
  obtain ⟨b, off, e, _, hc⟩ := ints_get h.ints hk
  injection e with e
  injection e with e1 e2
  rw [← e1, ← e2, Nat.zero_add] at hc
  exact hc
theorem bump_row {vs E : List Int} {k : Nat} {e : Int} {w : World} {g s : Nat} (hE : E[k]? = some e) (hs : slotOf vs e = s) (h : Row w g ((countL vs (E.take k)).map (Value.int .i64))) :
    Row (w.setCell ⟨g, s, none⟩ (.int .i64 ((countL vs (E.take k)).getD s 0 + 1))) g ((countL vs (E.take (k + 1))).map (Value.int .i64)) := by
  rw [countL_take vs hE, hs]
  unfold bump
  rw [List.map_set]
  exact h.set s _ (by rw [List.length_map, countL_len, ← hs]; exact slotOf_lt vs e)
def CountPost (a : Asm) (vs : List Int) (w : World) (e : Ending) (w' : World) : Prop :=
  ∃ g, e = .returned (.slice (some ⟨g, 0, none⟩) 4 4) ∧ OwnL intCells (countM a vs) w.heap.size w' (.slice (some ⟨g, 0, none⟩) 4 4) ∧ Below w.heap.size w w'
theorem count_own {a : Asm} {vs : List Int} {base g : Nat} {w : World} (hb : base ≤ g) (hg : g < w.heap.size) (h : Row w g ((countM a vs).map (Value.int .i64))) : OwnL intCells (countM a vs) base w (.slice (some ⟨g, 0, none⟩) 4 4) :=
  ⟨some ⟨g, 0, none⟩, 4, by rw [countM_len], by rw [countM_len]; exact Nat.le_refl _, by decide, fun _ => ⟨g, rfl, hb, hg, by rw [flat_ints]; exact h⟩⟩

theorem cnt0 (vs : List Int) (E : List Int) : costL (fun _ => 0) 4 = (countL vs (E.take 0)).map (Value.int .i64) := rfl
end Go.Proofs.Ytihhbkijcebapaa

namespace Go.Proofs.Ytihhbkijcebapaa
open Go.RowKit Go.Lib

end Go.Proofs.Ytihhbkijcebapaa
