/- The text of a deed, walked: the reference's, whole. -/
import Derived.Test.YtmgdodgofpapgaaDoorLawP
namespace Go.Proofs.YtmgdodgofpapgaaDoor
open Go.RowKit Go.Lib

theorem keep5 {w X X' : World} {G a b c d e : Nat} {v1 v2 v3 v4 v5 : Value} (h : X.cell? ⟨G, a, none⟩ = some v1 ∧ X.cell? ⟨G, b, none⟩ = some v2 ∧ X.cell? ⟨G, c, none⟩ = some v3 ∧ X.cell? ⟨G, d, none⟩ = some v4 ∧ X.cell? ⟨G, e, none⟩ = some v5 ∧ Below w.heap.size w X) (hb : Below X.heap.size X X') :
    X'.cell? ⟨G, a, none⟩ = some v1 ∧ X'.cell? ⟨G, b, none⟩ = some v2 ∧ X'.cell? ⟨G, c, none⟩ = some v3 ∧ X'.cell? ⟨G, d, none⟩ = some v4 ∧ X'.cell? ⟨G, e, none⟩ = some v5 ∧ Below w.heap.size w X' := by
  obtain ⟨h1, h2, h3, h4, h5, h6⟩ := h
  have hG : G < X.heap.size := World.block_lt_of_cell? X ⟨G, a, none⟩ h1
  exact ⟨(hb.cell (p := ⟨G, a, none⟩) hG).trans h1, (hb.cell (p := ⟨G, b, none⟩) hG).trans h2, (hb.cell (p := ⟨G, c, none⟩) hG).trans h3, (hb.cell (p := ⟨G, d, none⟩) hG).trans h4, (hb.cell (p := ⟨G, e, none⟩) hG).trans h5, h6.trans (hb.mono h6.size)⟩
theorem and6 {p q r s t u : Prop} (h : p ∧ q ∧ r ∧ s ∧ t ∧ u) : u := h.2.2.2.2.2

theorem semis_map (l : List UInt8) : l.map (fun c => if c = 10 then 59 else c) = semis l := rfl

end Go.Proofs.YtmgdodgofpapgaaDoor
