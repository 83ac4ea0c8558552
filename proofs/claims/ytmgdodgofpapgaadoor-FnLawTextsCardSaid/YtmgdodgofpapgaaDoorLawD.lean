/- Names and small tests, walked: the program's and the reference's. -/
import Derived.Test.YtmgdodgofpapgaaDoorLawC
namespace Go.Proofs.YtmgdodgofpapgaaDoor
open Go.RowKit

def nameCh (c : Nat) : Bool := decide (97 ≤ c) && decide (c ≤ 122)
theorem okName_bad (l : List UInt8) (k : Nat) (hk : k < l.length) (h : nameCh (byteAt l k) = false) : okName l = false := by
  unfold okName
  have h' : (decide (97 ≤ byteAt l k) && decide (byteAt l k ≤ 122)) = false := h
  rw [allLt_false (f := fun k => decide (97 ≤ byteAt l k) && decide (byteAt l k ≤ 122)) hk h']
  rfl

end Go.Proofs.YtmgdodgofpapgaaDoor
