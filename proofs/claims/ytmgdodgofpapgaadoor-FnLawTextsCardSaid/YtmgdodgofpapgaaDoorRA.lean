/- The reference's readers of parts: a text cut, a number. -/
import Derived.Test.YtmgdodgofpapgaaDoorRp
import Derived.Test.YtmgdodgofpapgaaDoorLawQ
import Derived.BigQuiet
namespace Go.Proofs.YtmgdodgofpapgaaDoor
open Go.RowKit Go.Lib

theorem mk_data (b : ByteArray) : (⟨b.data.toList.toArray⟩ : ByteArray) = b := by
  apply ByteArray.ext
  simp
theorem ext_take (s : ByteArray) (k : Nat) : s.extract 0 k = ⟨(s.data.toList.take k).toArray⟩ := by rw [← extract_from_zero, mk_data]
theorem ext_drop (s : ByteArray) (k : Nat) : s.extract k s.size = ⟨(s.data.toList.drop k).toArray⟩ := by rw [← extract_to_end, mk_data]
theorem ext_mid (s : ByteArray) (a b : Nat) : s.extract a b = ⟨((s.data.toList.take b).drop a).toArray⟩ := by
  rw [← mk_data (s.extract a b)]
  congr 2
  rw [extract_data]
  simp [List.drop_take]
theorem take_snoc' (s : ByteArray) (k : Nat) (h : k < s.size) : s.data.toList.take (k + 1) = s.data.toList.take k ++ [s[k]] := by
  rw [List.take_succ_eq_append_getElem (by simpa using h)]; rfl

/-- The number that the digits of a text make, whatever stands between them. -/
def dval (l : List UInt8) : Nat := l.foldl (fun n c => if 48 ≤ c.toNat ∧ c.toNat ≤ 57 then 10 * n + (c.toNat - 48) else n) 0
theorem dval_snoc (l : List UInt8) (c : UInt8) : dval (l ++ [c]) = if 48 ≤ c.toNat ∧ c.toNat ≤ 57 then 10 * dval l + (c.toNat - 48) else dval l := by
  unfold dval
  rw [List.foldl_append]
  rfl
theorem dval_lt (l : List UInt8) : ∀ k, dval (l.take k) < 10 ^ (min k l.length)
  | 0 => by simp [dval]
  | k + 1 => by
    have ih := dval_lt l k
    by_cases h : k < l.length
    · rw [List.take_succ_eq_append_getElem h, dval_snoc, Nat.min_eq_left (by omega), Nat.pow_succ]
      rw [Nat.min_eq_left (by omega)] at ih
      split <;> omega
    · rw [Nat.min_eq_right (by omega)] at ih ⊢
      rw [List.take_of_length_le (by omega)] at ih ⊢
      exact ih
theorem dval_digits (u : Nat) : ∀ p : List UInt8, dval p = 0 → dval (p ++ decDigits u) = u := by
  induction u using Nat.strongRecOn with
  | _ u ih =>
    intro p hp
    rw [decDigits]
    split
    · rename_i h
      rw [dval_snoc, digit_of u h, if_pos (by omega), hp]
      omega
    · rename_i h
      rw [← List.append_assoc, dval_snoc, digit_of (u % 10) (by omega), if_pos (by omega), ih (u / 10) (by omega) p hp]
      omega
/-- What the reference takes a text for, before it looks whether it is that number's text. -/
def rdval (l : List UInt8) : Int := if l.head?.map (·.toNat) = some 45 then -(dval l : Int) else (dval l : Int)
theorem rdval_itoa (n : Int) : rdval (itoa n) = n := by
  unfold rdval itoa
  split
  · rename_i h
    have := dval_digits n.natAbs [45] (by decide)
    rw [List.singleton_append] at this
    rw [if_pos (show (45 :: decDigits n.natAbs).head?.map (·.toNat) = some 45 from rfl), this]
    omega
  · rename_i h
    obtain ⟨c, r, hd, hc⟩ := digits_head n.toNat
    have := dval_digits n.toNat [] rfl
    rw [List.nil_append, hd] at this
    unfold isDigit at hc
    rw [hd, if_neg (by simp; omega), this]
    omega
theorem itoa_len10 {n : Int} (h1 : -999999999 ≤ n) (h2 : n ≤ 999999999) : (itoa n).length ≤ 10 := by
  have hd : ∀ (k u : Nat), u < 10 ^ (k + 1) → (decDigits u).length ≤ k + 1 := by
    intro k
    induction k with
    | zero =>
      intro u hu
      rw [decDigits, dif_pos (by simpa using hu)]
      simp
    | succ k ih =>
      intro u hu
      rw [decDigits]
      split
      · simp
      · have := ih (u / 10) (by rw [Nat.pow_succ] at hu; omega)
        rw [List.length_append]
        simp
        omega
  unfold itoa
  split
  · have := hd 8 n.natAbs (by omega)
    rw [List.length_cons]
    omega
  · have := hd 8 n.toNat (by omega)
    omega

theorem numOf_no {lo hi z : Int} {t : List UInt8} (hu : ∀ q, inB q lo hi = true → itoa q = t → z = q) (h : ¬ (inB z lo hi = true ∧ itoa z = t)) : numOf lo hi t = none := inv_no hu h
theorem numOf_yes {lo hi z : Int} {t : List UInt8} (hu : ∀ q, inB q lo hi = true → itoa q = t → z = q) (h1 : inB z lo hi = true) (h2 : itoa z = t) : numOf lo hi t = some z := inv_of hu h1 h2
end Go.Proofs.YtmgdodgofpapgaaDoor
