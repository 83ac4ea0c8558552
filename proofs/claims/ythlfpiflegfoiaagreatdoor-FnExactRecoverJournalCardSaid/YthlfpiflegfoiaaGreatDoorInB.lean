/- Is a number in a range: the program. -/
import Derived.Test.YthlfpiflegfoiaaGreatDoorBase
namespace Go.Proofs.YthlfpiflegfoiaaGreatDoor
open Go.RowKit

set_option maxHeartbeats 400000 in
theorem in2_yes (n a b : Int) (w : World) (h1 : a ≤ n) (h2 : n ≤ b) :
    Calls Tryz.prog 86 #[.int .i64 n, .int .i64 a, .int .i64 b] w (RetQ (.bool true) w) := by
  go_enter Tryz.func86, Tryz.ntmps86
  go_wp2
  go_ret
  exact ⟨rfl, 0, rfl⟩
set_option maxHeartbeats 400000 in
theorem in2_no (n a b : Int) (w : World) (h : n < a ∨ b < n) :
    Calls Tryz.prog 86 #[.int .i64 n, .int .i64 a, .int .i64 b] w (RetQ (.bool false) w) := by
  by_cases h1 : a ≤ n
  · have h2 : decide (n ≤ b) = false := by simp; omega
    clear h
    go_enter Tryz.func86, Tryz.ntmps86
    go_wp2
    go_ret
    exact ⟨rfl, 0, rfl⟩
  · have h2 : n < a := by omega
    clear h
    go_enter Tryz.func86, Tryz.ntmps86
    go_wp2
    go_ret
    exact ⟨rfl, 0, rfl⟩


theorem in2_any (n a b : Int) (w : World) :
    Calls Tryz.prog 86 #[.int .i64 n, .int .i64 a, .int .i64 b] w (RetQ (.bool (inB n a b)) w) := by
  by_cases h : a ≤ n ∧ n ≤ b
  · rw [inB_true h.1 h.2]
    exact in2_yes n a b w h.1 h.2
  · have h' : n < a ∨ b < n := by omega
    rw [inB_false h']
    exact in2_no n a b w h'

end Go.Proofs.YthlfpiflegfoiaaGreatDoor
