/- The least of a list of numbers: the library's Min, walked. -/
import Derived.Test.YtbamlilnbhhcmaaDoorQB
namespace Go.Proofs.YtbamlilnbhhcmaaDoor
open Go.RowKit Go.Lib

theorem foldm_take {L : List Int} {m : Int} {k : Nat} (h : k < L.length) : (L.take (k + 1)).foldl min m = min ((L.take k).foldl min m) L[k] := by
  rw [List.take_succ_eq_append_getElem h, List.foldl_append]
  rfl
theorem foldm_le : ∀ (L : List Int) (m : Int), L.foldl min m ≤ m ∧ ∀ z ∈ L, L.foldl min m ≤ z
  | [], m => ⟨Int.le_refl _, fun z h => (by cases h)⟩
  | x :: L, m => by
    obtain ⟨h1, h2⟩ := foldm_le L (min m x)
    show (L.foldl min (min m x)) ≤ m ∧ ∀ z ∈ x :: L, L.foldl min (min m x) ≤ z
    refine ⟨Int.le_trans h1 (Int.min_le_left _ _), fun z hz => ?_⟩
    rcases List.mem_cons.1 hz with rfl | hz
    · exact Int.le_trans h1 (Int.min_le_right _ _)
    · exact h2 z hz
set_option maxHeartbeats 2000000 in
theorem min2_any (L : List Int) (v : Value) (w : World) (h : Ints w w.heap.size v L) (h0 : 0 < L.length) (hl : L.length ≤ 1000) : Calls Tryd.prog 19 #[v] w (RetB (.int .i64 (L.foldl min (L[0]'h0))) w) := by
  have hg0 : L[0]? = some (L[0]'h0) := List.getElem?_eq_getElem h0
  have HI := Lib.hid h
  obtain ⟨A, c, rfl, hc, hm, _⟩ := h
  obtain ⟨b, off, rfl, hb, x0⟩ := ints_get HI.out hg0
  rw [Nat.add_zero] at x0
  have HFT : Hid ((L.take 1).foldl min (L[0]'h0) = L[0]'h0) := Lib.hid (by rw [foldm_take h0, List.take_zero]; exact Int.min_self _)
  have h1 : ¬ (L.length : Int) < 1 := by omega
  have hl0 : (0 : Int) < (L.length : Int) := by omega
  obtain ⟨z0, hz0⟩ : ∃ z, z = L[0]'h0 := ⟨_, rfl⟩
  rw [← hz0] at HFT x0 ⊢
  clear hg0 hz0
  go_enter Tryd.func19, Tryd.ntmps19
  go_wp2
  go_loopw [3, 4] (fun m i wr => ∃ k : Nat, 1 ≤ k ∧ k ≤ L.length ∧ i = .int .i64 (k : Int) ∧ m = .int .i64 ((L.take k).foldl min z0) ∧ wr = w) (fun _ i _ => L.length - (RowKit.intOf i).toNat)
  case atStart => exact ⟨1, Nat.le_refl _, h0, rfl, by rw [HFT.out], by first | rfl | trivial⟩
  case round =>
    obtain ⟨k, hk1, hk, rfl, rfl, rfl⟩ := hrel
    by_cases hlt : k < L.length
    · obtain ⟨b2, o2, e2, _, x2⟩ := ints_get HI.out (List.getElem?_eq_getElem hlt)
      injection e2 with e2
      injection e2 with e3 e4
      subst e3 e4
      have HN := Lib.hid (foldm_take (m := z0) hlt)
      generalize (L.take k).foldl min z0 = m at *
      generalize L[k] = z at *
      go_wp2
      go_roundw
      case rel => exact ⟨k + 1, by omega, by omega, by go_num, by rw [HN.out], by first | rfl | trivial⟩
      case measure => simp [RowKit.intOf]; omega
    · have hge : ¬ (k : Int) < (L.length : Int) := by omega
      have HN : Hid ((L.take k).foldl min z0 = L.foldl min z0) := Lib.hid (by rw [List.take_of_length_le (by omega)])
      generalize (L.take k).foldl min z0 = m at *
      go_wp2
      go_ret
      exact ⟨by rw [← HN.out]; rfl, Below.refl _ _⟩
end Go.Proofs.YtbamlilnbhhcmaaDoor
