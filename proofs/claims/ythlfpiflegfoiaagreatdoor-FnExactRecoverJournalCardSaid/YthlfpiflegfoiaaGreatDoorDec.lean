/- Decimal numerals: what is written is read back. No program here. -/
import Derived.Lib.ItoaLen
import Derived.Lib.ParseIntB
import Derived.Lib.IndexMore
import Derived.Lib.ItoaNum
namespace Go.Proofs.YthlfpiflegfoiaaGreatDoor
open Go.Lib

def isDigit (c : UInt8) : Prop := 48 ≤ c.toNat ∧ c.toNat ≤ 57

theorem digit_of (d : Nat) (h : d < 10) : (UInt8.ofNat (48 + d)).toNat = 48 + d := by
  rw [UInt8.toNat_ofNat']
  omega

theorem decDigits_digits (u : Nat) : ∀ c ∈ decDigits u, isDigit c := by
  induction u using Nat.strongRecOn with
  | _ u ih =>
    intro c hc
    rw [decDigits] at hc
    split at hc
    · rw [List.mem_singleton] at hc
      subst hc
      unfold isDigit
      rw [digit_of u (by omega)]
      omega
    · rw [List.mem_append] at hc
      rcases hc with hc | hc
      · exact ih _ (by omega) c hc
      · rw [List.mem_singleton] at hc
        subst hc
        unfold isDigit
        rw [digit_of (u % 10) (by omega)]
        omega

theorem decDigits_ne (u : Nat) : decDigits u ≠ [] := by
  rw [decDigits]
  split <;> simp

theorem parse_append (M : Nat) : ∀ (l r : List UInt8) (acc a : Nat), parseUintM M acc l = .ok a → parseUintM M acc (l ++ r) = parseUintM M a r
  | [], r, acc, a, h => by
    simp only [parseUintM] at h
    injection h with h
    subst h
    rfl
  | c :: l, r, acc, a, h => by
    rw [List.cons_append]
    simp only [parseUintM] at h ⊢
    by_cases h1 : 48 ≤ c.toNat ∧ c.toNat ≤ 57
    · rw [if_pos h1] at h ⊢
      by_cases h2 : 1844674407370955162 ≤ acc
      · rw [if_pos h2] at h
        cases h
      · rw [if_neg h2] at h ⊢
        by_cases h3 : M < acc * 10 + (c.toNat - 48)
        · rw [if_pos h3] at h
          cases h
        · rw [if_neg h3] at h ⊢
          exact parse_append M l r _ a h
    · rw [if_neg h1] at h
      cases h

theorem parse_digits (M : Nat) (hM : M ≤ 18446744073709551615) (u : Nat) (hu : u ≤ M) : parseUintM M 0 (decDigits u) = .ok u := by
  induction u using Nat.strongRecOn with
  | _ u ih =>
    rw [decDigits]
    split
    · rename_i h
      unfold parseUintM
      rw [digit_of u h, if_pos (by omega), if_neg (by omega), if_neg (by omega)]
      simp [parseUintM]
    · rename_i h
      rw [parse_append M _ _ _ _ (ih (u / 10) (by omega) (by omega))]
      unfold parseUintM
      rw [digit_of (u % 10) (by omega), if_pos (by omega), if_neg (by omega), if_neg (by omega)]
      simp only [parseUintM]
      congr 1
      omega

theorem digits_head (u : Nat) : ∃ c r, decDigits u = c :: r ∧ isDigit c := by
  cases h : decDigits u with
  | nil => exact absurd h (decDigits_ne u)
  | cons c r => exact ⟨c, r, rfl, decDigits_digits u c (by rw [h]; simp)⟩

theorem parse_itoa (n : Int) (h1 : -9223372036854775808 ≤ n) (h2 : n ≤ 9223372036854775807) : parseIntB 64 (itoa n) = .ok n := by
  unfold itoa
  split
  · rename_i h
    have hp := parse_digits 18446744073709551615 (by decide) n.natAbs (by omega)
    have hu : parseUintB 64 (decDigits n.natAbs) = .ok n.natAbs := by
      unfold parseUintB
      rw [if_neg (decDigits_ne _)]
      exact hp
    have e : (45 : UInt8).toNat = 45 := rfl
    unfold parseIntB
    simp only [e, or_true, if_true, hu]
    rw [if_neg (by simp), if_neg (by rintro ⟨_, h⟩; simp at h; omega)]
    congr 1
    omega
  · rename_i h
    obtain ⟨c, r, hd, hc⟩ := digits_head n.toNat
    unfold isDigit at hc
    have hp := parse_digits 18446744073709551615 (by decide) n.toNat (by omega)
    rw [hd] at hp ⊢
    have hu : parseUintB 64 (c :: r) = .ok n.toNat := by
      unfold parseUintB
      rw [if_neg (by simp)]
      exact hp
    have e1 : ¬ c.toNat = 43 := by omega
    have e2 : ¬ c.toNat = 45 := by omega
    unfold parseIntB
    simp only [e1, e2, or_false, if_false]
    rw [hu]
    simp only []
    rw [if_neg (by rintro ⟨_, h⟩; simp at h; omega), if_neg (by rintro ⟨h, _⟩; exact h)]
    congr 1
    omega

theorem itoa_inj {a b : Int} (h1 : -9223372036854775808 ≤ a) (h2 : a ≤ 9223372036854775807) (h3 : -9223372036854775808 ≤ b) (h4 : b ≤ 9223372036854775807) (h : itoa a = itoa b) : a = b := by
  have e := parse_itoa a h1 h2
  rw [h, parse_itoa b h3 h4] at e
  injection e with e
  exact e.symm

/-- A numeral's bytes: digits and the minus. -/
theorem itoa_bytes (n : Int) : ∀ c ∈ itoa n, isDigit c ∨ c = 45 := by
  intro c hc
  unfold itoa at hc
  split at hc
  · simp at hc
    rcases hc with rfl | hc
    · exact .inr rfl
    · exact .inl (decDigits_digits _ c hc)
  · exact .inl (decDigits_digits _ c hc)

theorem itoa_ne (n : Int) : itoa n ≠ [] := by
  unfold itoa
  split
  · simp
  · exact decDigits_ne _

theorem index_one (l r : List UInt8) (c : UInt8) (h : c ∉ l) : index (l ++ c :: r) [c] = l.length := by
  induction l with
  | nil => simp [index]
  | cons b l ih =>
    have hb : b ≠ c := fun e => h (by simp [e])
    have hl : c ∉ l := fun e => h (by simp [e])
    rw [List.cons_append]
    unfold index
    rw [ih hl]
    have hp : ([c] : List UInt8).isPrefixOf (b :: (l ++ c :: r)) = false := by
      simp [List.isPrefixOf]
      exact fun e => hb e.symm
    rw [hp]
    have : ((l.length : Int) == -1) = false := by rw [beq_eq_false_iff_ne]; omega
    simp [this]

theorem index_none (l : List UInt8) (c : UInt8) (h : c ∉ l) : index l [c] = -1 := by
  induction l with
  | nil => simp [index]
  | cons b l ih =>
    have hb : b ≠ c := fun e => h (by simp [e])
    have hl : c ∉ l := fun e => h (by simp [e])
    unfold index
    rw [ih hl]
    have hp : ([c] : List UInt8).isPrefixOf (b :: l) = false := by
      simp [List.isPrefixOf]
      exact fun e => hb e.symm
    rw [hp]
    simp

theorem cut_at (l r : List UInt8) (c : UInt8) (h : c ∉ l) : cut (l ++ c :: r) [c] = (l, r, true) := by
  unfold cut
  rw [index_one l r c h, if_pos (by omega)]
  simp [List.drop_append]

theorem cut_none (l : List UInt8) (c : UInt8) (h : c ∉ l) : cut l [c] = (l, [], false) := by
  unfold cut
  rw [index_none l c h, if_neg (by omega)]

end Go.Proofs.YthlfpiflegfoiaaGreatDoor
