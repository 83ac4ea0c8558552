/- An assembly at its beginning, plain: trust as it is drawn. -/
import Derived.Test.YtihhbkijcebapaaZd
import Derived.Test.YtihhbkijcebapaaZa
namespace Go.Proofs.Ytihhbkijcebapaa
open Go.RowKit Go.Lib

theorem trust_nil (i n : Int) : okTrust [] i n = true := by rw [okTrust_eq]; rfl
theorem trust_snoc {t : List Int} {i n x : Int} (h : okTrust t i n = true) (h4 : t.length < 4) (h0 : 0 ≤ x) (hn : x < n) (hi : x ≠ i) (hc : t.contains x = false) : okTrust (t ++ [x]) i n = true := by
  rw [okTrust_eq, Bool.and_eq_true, allLt_true, decide_eq_true_eq] at h ⊢
  rw [List.length_append, List.length_singleton]
  refine ⟨fun k hk => ?_, by omega⟩
  by_cases hlt : k < t.length
  · have hz : t[k]? = some t[k] := List.getElem?_eq_getElem hlt
    have := h.1 k hlt
    rw [trustAt_eq hz] at this
    rw [trustAt_eq (z := t[k]) (by rw [List.getElem?_append_left hlt]; exact hz), List.take_append_of_le_length (by omega)]
    exact this
  · have : k = t.length := by omega
    subst this
    rw [trustAt_eq (z := x) (by rw [List.getElem?_append_right (Nat.le_refl _), Nat.sub_self]; rfl), List.take_append_of_le_length (Nat.le_refl _), List.take_length, hc]
    have e1 : inB x 0 (n - 1) = true := by rw [inB_iff]; omega
    rw [e1, decide_eq_true hi]
    rfl
theorem onO_none (S : List Art) (d : Int) : onO S [] d = some S := rfl
theorem new_full {d rule : Int} {tr : List (List Int)} {base : List Art} (hd0 : 0 ≤ d) (hd1 : d ≤ 999) (hr : inB rule 0 2 = true) (h1 : 1 ≤ tr.length) (h12 : tr.length ≤ 12) (ht : ∀ (k : Nat) (l : List Int), tr[k]? = some l → okTrust l k tr.length = true) (hs : okStat base = true) :
    AsmFull ⟨d, rule, tr, base, [], []⟩ where
  ok := ⟨h1, h12, by show (0 : Nat) ≤ 6; omega, inB_iff.1 hr, ht, fun k m hk => by simp at hk⟩
  d0 := hd0
  d1 := hd1
  two i j p q _ hp _ := by simp at hp
  stat := hs
  acts := (by decide : okActs [] = true)
  all d _ _ := by rw [onO_none]; simp
end Go.Proofs.Ytihhbkijcebapaa
