/- The reference's readers of lines and of lists of numbers. -/
import Derived.Test.YtmgdodgofpapgaaDoorRow
namespace Go.Proofs.YtmgdodgofpapgaaDoor
open Go.RowKit Go.Lib


def LinesPost (s : ByteArray) (most : Nat) (w : World) (e : Ending) (w' : World) : Prop :=
  ∃ ls v ok, e = .returned (.tuple #[v, .bool ok]) ∧ Strs w' v ls ∧ (ok = true → splitC 10 s.data.toList = ls ++ [[]] ∧ ls.length ≤ most) ∧ (ok = false → ∀ qs, splitC 10 s.data.toList = qs ++ [[]] → most < qs.length) ∧ Below w.heap.size w w'

theorem mid_size (l : List UInt8) (a b : Nat) {n : Nat} (h : l.length ≤ n) : (⟨((l.take b).drop a).toArray⟩ : ByteArray).size ≤ n := by
  show (((l.take b).drop a).toArray).size ≤ n
  rw [List.size_toArray, List.length_drop, List.length_take]
  omega
def RetOwn {α : Type} (f : α → List Value) (xs : List α) (w : World) (e : Ending) (w' : World) : Prop := ∃ v, e = .returned v ∧ OwnL f xs w.heap.size w' v ∧ Below w.heap.size w w'
theorem Tryd.infoI : (Tryd.prog.info? 2).map (fun i => (i.zero, i.size, i.bytes)) = some (some (.int .i64 0), 1, 8) := by kernel_rfl

end Go.Proofs.YtmgdodgofpapgaaDoor
