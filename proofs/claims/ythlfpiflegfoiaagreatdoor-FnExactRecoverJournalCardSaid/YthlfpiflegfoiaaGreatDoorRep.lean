/- A byte replaced by a byte, as the library's ReplaceAll does it. No program here. -/
import Derived.Test.YthlfpiflegfoiaaGreatDoorDec
import Derived.Lib.Replace
import Derived.Lib.CountLaws
namespace Go.Proofs.YthlfpiflegfoiaaGreatDoor
open Go.Lib

theorem split_at (c : UInt8) : ∀ l : List UInt8, c ∈ l → ∃ a r, l = a ++ c :: r ∧ c ∉ a
  | [], h => by cases h
  | x :: l, h => by
    by_cases e : x = c
    · exact ⟨[], l, by rw [e]; rfl, by simp⟩
    · obtain ⟨a, r, h1, h2⟩ := split_at c l (by rcases List.mem_cons.1 h with h | h; exact absurd h.symm e; exact h)
      exact ⟨x :: a, r, by rw [h1]; rfl, by rw [List.mem_cons]; rintro (h | h); exact e h.symm; exact h2 h⟩
theorem map_id_not (c d : UInt8) (l : List UInt8) (h : c ∉ l) : l.map (fun x => if x = c then d else x) = l := by
  conv => rhs; rw [← List.map_id l]
  apply List.map_congr_left
  intro x hx
  rw [if_neg (by rintro rfl; exact h hx)]
  rfl

theorem replaceK_map (c d : UInt8) : ∀ (n : Nat) (l : List UInt8), l.length ≤ n → replaceK [c] [d] (count l [c]) l = l.map (fun x => if x = c then d else x)
  | 0, l, h => by
    have : l = [] := List.eq_nil_of_length_eq_zero (by omega)
    subst this
    rw [count_miss (index_none [] c (by simp))]
    rfl
  | n + 1, l, h => by
    by_cases hc : c ∈ l
    · obtain ⟨a, r, rfl, ha⟩ := split_at c l hc
      have hi := index_one a r c ha
      have hcnt : count (a ++ c :: r) [c] = count r [c] + 1 := by
        have := count_hit (s := a ++ c :: r) (sub := [c]) (i := a.length) (by simp) hi
        rw [this, Nat.add_comm]
        congr 2
        simp
      rw [hcnt, replaceK_hit _ _ _ _ _ hi]
      have hd : (a ++ c :: r).drop (a.length + [c].length) = r := by simp
      rw [hd, replaceK_map c d n r (by simp at h; omega), List.map_append, List.map_cons, if_pos rfl, map_id_not c d a ha]
      simp
    · rw [count_miss (index_none l c hc), map_id_not c d l hc]
      rfl
theorem replaceAll_map (c d : UInt8) (h : c ≠ d) (l : List UInt8) : replaceAll l [c] [d] = l.map (fun x => if x = c then d else x) := by
  unfold replaceAll replace
  have : ([c] == [d]) = false := by simp [h]
  rw [this]
  have hn : replaceNum l [c] (-1) = count l [c] := by unfold replaceNum; rw [if_pos (.inl (by omega))]
  rw [hn]
  exact replaceK_map c d l.length l (Nat.le_refl _)

end Go.Proofs.YthlfpiflegfoiaaGreatDoor
