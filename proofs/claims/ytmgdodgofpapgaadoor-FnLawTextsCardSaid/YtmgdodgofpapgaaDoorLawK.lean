/- Sentences, walked: the reference's. -/
import Derived.Test.YtmgdodgofpapgaaDoorLawF
namespace Go.Proofs.YtmgdodgofpapgaaDoor
open Go.RowKit

theorem okSent_head {l : List UInt8} (h : l.length < 1 ∨ 24 < l.length ∨ byteAt l 0 = 32 ∨ byteAt l (l.length - 1) = 32) : okSent l = false := by
  unfold okSent
  rcases h with h | h | h | h
  · have : decide (1 ≤ l.length) = false := decide_eq_false (by omega)
    rw [this]; simp
  · have : decide (l.length ≤ 24) = false := decide_eq_false (by omega)
    rw [this]; simp
  · simp [h]
  · simp [h]
theorem okSent_all {l : List UInt8} (h1 : 1 ≤ l.length) (h2 : l.length ≤ 24) (h3 : byteAt l 0 ≠ 32) (h4 : byteAt l (l.length - 1) ≠ 32) (h : allLt l.length (fun j => sentCh (byteAt l j)) = true) : okSent l = true := by
  unfold okSent
  rw [h]
  simp [h1, h2, h3, h4]

end Go.Proofs.YtmgdodgofpapgaaDoor
