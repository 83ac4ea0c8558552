/- The reference's readers of an edit and of a patch. -/
import Derived.Test.YtmgdodgofpapgaaDoorRB
namespace Go.Proofs.YtmgdodgofpapgaaDoor
open Go.RowKit Go.Lib

theorem cutL_len (c : UInt8) (l : List UInt8) : (cutL c l).1.length ≤ l.length ∧ (cutL c l).2.length ≤ l.length := by
  unfold cutL
  have h1 := (List.takeWhile_sublist (fun x => x != c) (l := l)).length_le
  have h2 := (List.dropWhile_sublist (fun x => x != c) (l := l)).length_le
  refine ⟨h1, ?_⟩
  rw [List.length_drop]
  omega
theorem mk_size (l : List UInt8) : (⟨l.toArray⟩ : ByteArray).size = l.length := by simp [ByteArray.size]
theorem cons_of (s : ByteArray) (h : 0 < s.size) : s.data.toList = s[0] :: s.data.toList.drop 1 := by
  have := List.drop_eq_getElem_cons (l := s.data.toList) (i := 0) (by simpa using h)
  rw [List.drop_zero] at this
  exact this

end Go.Proofs.YtmgdodgofpapgaaDoor
