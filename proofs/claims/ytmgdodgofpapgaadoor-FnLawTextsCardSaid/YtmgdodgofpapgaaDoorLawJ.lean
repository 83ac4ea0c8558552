/- Numbers as texts, walked: the reference's. (Under way.) -/
import Derived.Test.YtmgdodgofpapgaaDoorLawI
namespace Go.Proofs.YtmgdodgofpapgaaDoor
open Go.RowKit Go.Lib

/-- The digits of a number, none for zero. -/
def dg (u : Nat) : List UInt8 := if u = 0 then [] else decDigits u

theorem dg_step (u : Nat) (h : ¬ u = 0) : dg u = dg (u / 10) ++ [UInt8.ofNat (48 + u % 10)] := by
  unfold dg
  rw [if_neg h]
  by_cases h10 : u < 10
  · rw [if_pos (by omega), decDigits, dif_pos h10, Nat.mod_eq_of_lt h10]; rfl
  · rw [if_neg (by omega), decDigits, dif_neg h10]
theorem len20 (a b : List UInt8) (n : Int) (h : a ++ b = itoa n) (h1 : -9223372036854775808 ≤ n) (h2 : n ≤ 9223372036854775807) : b.length ≤ 21 := by
  have := itoa_length_le n h1 h2
  rw [← h, List.length_append] at this
  omega
theorem dg_pos (n : Int) (h : 0 < n) : dg n.toNat = itoa n := by
  unfold dg itoa
  rw [if_neg (by omega), if_neg (by omega)]
theorem len21 (a b D : List UInt8) (h : a ++ b = D) (h1 : D.length ≤ 21) : b.length ≤ 21 := by
  rw [← h, List.length_append] at h1
  omega
theorem itoa_zero : itoa 0 = [48] := by unfold itoa decDigits; rfl

end Go.Proofs.YtmgdodgofpapgaaDoor
