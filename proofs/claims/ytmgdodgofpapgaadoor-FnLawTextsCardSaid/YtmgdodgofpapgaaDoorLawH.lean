/- Numbers in a row as a text, walked: the program's. -/
import Derived.Lib.Join
import Derived.Test.YtmgdodgofpapgaaDoorLawG
namespace Go.Proofs.YtmgdodgofpapgaaDoor
open Go.RowKit Go.Lib

def strCell (l : List UInt8) : List Value := [.string ⟨l.toArray⟩]
/-- Numbers with a text between two of them. -/
def nums (zs : List Int) (sep : List UInt8) : List UInt8 := Lib.join (zs.map itoa) sep
theorem lens_nums (zs : List Int) (hz : ∀ z ∈ zs, -9223372036854775808 ≤ z ∧ z ≤ 9223372036854775807) : Lib.lens (zs.map itoa) ≤ 21 * zs.length := by
  induction zs with
  | nil => simp [Lib.lens]
  | cons z r ih =>
    have := itoa_length_le z (hz z (by simp)).1 (hz z (by simp)).2
    have := ih fun x hx => hz x (by simp [hx])
    simp [Lib.lens] at *
    omega
theorem nums_len (zs : List Int) (sep : List UInt8) (hs : sep.length ≤ 16) (hz : ∀ z ∈ zs, -9223372036854775808 ≤ z ∧ z ≤ 9223372036854775807) : (nums zs sep).length ≤ 37 * zs.length := by
  cases zs with
  | nil => simp [nums, Lib.join_nil]
  | cons z r =>
    unfold nums
    have h1 := itoa_length_le z (hz z (by simp)).1 (hz z (by simp)).2
    have h2 := lens_nums r fun x hx => hz x (by simp [hx])
    rw [List.map_cons, Lib.join_cons, List.length_append, Lib.joinTail_length, List.length_map, List.length_cons]
    have : sep.length * r.length ≤ 16 * r.length := Nat.mul_le_mul_right _ hs
    omega

theorem Tryd.infoS : (Tryd.prog.info? 9).map (fun i => (i.zero, i.size, i.bytes)) = some (some (.string ⟨#[]⟩), 1, 16) := by kernel_rfl

theorem own_below {w w' : World} {base : Nat} {e : TypeId} {size : Nat} {v : Value} {n : Nat} {xs : List Value} (h : w.ownsRow base e size v n xs) (hb : Below w.heap.size w w') : w'.ownsRow base e size v n xs := by
  obtain ⟨hl, h | ⟨g, cap, cur, rfl, hg, hh, hr⟩⟩ := h
  · exact ⟨hl, .inl h⟩
  · refine ⟨hl, .inr ⟨g, cap, cur, rfl, hg, ?_, hr⟩⟩
    have hlt : g < w.heap.size := by
      rcases Nat.lt_or_ge g w.heap.size with hlt | hge
      · exact hlt
      · rw [Array.getElem?_eq_none hge] at hh; cases hh
    rw [hb.block g hlt]
    exact hh
theorem take_cells {zs : List Int} {k : Nat} {z : Int} (h : zs[k]? = some z) : ((zs.take (k + 1)).map itoa).flatMap strCell = ((zs.take k).map itoa).flatMap strCell ++ [.string ⟨(itoa z).toArray⟩] := by
  obtain ⟨hlt, rfl⟩ := List.getElem?_eq_some_iff.1 h
  rw [List.take_succ_eq_append_getElem hlt, List.map_append, List.flatMap_append]
  rfl

end Go.Proofs.YtmgdodgofpapgaaDoor
