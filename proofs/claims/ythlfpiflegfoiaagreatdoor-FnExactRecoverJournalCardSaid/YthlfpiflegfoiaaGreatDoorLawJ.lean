/- Numbers as texts, walked: the reference's. (Under way.) -/
import Derived.Test.YthlfpiflegfoiaaGreatDoorLawI
namespace Go.Proofs.YthlfpiflegfoiaaGreatDoor
open Go.RowKit Go.Lib

/-- The digits of a number, none for zero. -/
def dg (u : Nat) : List UInt8 := if u = 0 then [] else decDigits u

theorem dg_step (u : Nat) (h : ¬ u = 0) : dg u = dg (u / 10) ++ [UInt8.ofNat (48 + u % 10)] := by
  unfold dg
  rw [if_neg h]
  by_cases h10 : u < 10
  · rw [if_pos (by omega), decDigits, dif_pos h10, Nat.mod_eq_of_lt h10]; rfl
  · rw [if_neg (by omega), decDigits, dif_neg h10]
theorem len20 (a b : List UInt8) (n : Int) (h : a ++ b = itoa n) (h1 : -9223372036854775808 ≤ n) (h2 : n ≤ 9223372036854775807) : b.length ≤ 21 := by
  have := itoa_length_le n h1 h2
  rw [← h, List.length_append] at this
  omega
theorem dg_pos (n : Int) (h : 0 < n) : dg n.toNat = itoa n := by
  unfold dg itoa
  rw [if_neg (by omega), if_neg (by omega)]
theorem len21 (a b D : List UInt8) (h : a ++ b = D) (h1 : D.length ≤ 21) : b.length ≤ 21 := by
  rw [← h, List.length_append] at h1
  omega
theorem itoa_zero : itoa 0 = [48] := by unfold itoa decDigits; rfl

set_option maxRecDepth 100000 in
set_option maxHeartbeats 2000000 in
theorem dec1_any (n : Int) (w : World) (h1 : -9223372036854775808 ≤ n) (h2 : n ≤ 9223372036854775807) :
    Calls Tryz.prog 35 #[.int .i64 n] w (RetB (.string ⟨(itoa n).toArray⟩) w) := by
  by_cases h0 : n = 0
  · subst h0
    go_enter Tryz.func35, Tryz.ntmps35
    go_wp2
    go_ret
    exact ⟨by rw [itoa_zero]; rfl, Below.refl _ _⟩
  · have b0 : (n == 0) = false := by simp [h0]
    by_cases hp : 0 < n
    · have b1 : (0 : Int) < n := hp
      have b2 : ¬ n < 0 := by omega
      go_enter Tryz.func35, Tryz.ntmps35
      go_wp2
      go_loopw [3, 4] (fun m o wr => ∃ (u : Nat) (out : List UInt8), m = .int .i64 (-(u : Int)) ∧ (u : Int) ≤ 9223372036854775808 ∧ o = .string ⟨out.toArray⟩ ∧ out.length ≤ 21 ∧ dg u ++ out = itoa n ∧ Below w.heap.size w wr) (fun m _ _ => (-(RowKit.intOf m)).toNat)
      case atStart => exact ⟨n.toNat, [], by go_num, by omega, rfl, by simp, by rw [List.append_nil]; exact dg_pos n hp, Below.refl _ _⟩
      case round =>
        obtain ⟨u, out, rfl, hu, rfl, hol, hdg, hb⟩ := hrel
        by_cases hu0 : u = 0
        · subst hu0
          have HO : Hid (out = itoa n) := Lib.hid (by simpa [dg] using hdg)
          clear hdg
          go_wp2
          go_ret
          exact ⟨by rw [HO.out]; rfl, hb⟩
        · have hlt : -(u : Int) < 0 := by omega
          have hmod : (-(u : Int)).tmod 10 = -((u % 10 : Nat) : Int) := by rw [Int.neg_tmod]; rfl
          have hdiv : (-(u : Int)).tdiv 10 = -((u / 10 : Nat) : Int) := by rw [Int.neg_tdiv]; rfl
          have hd10 : u % 10 < 10 := Nat.mod_lt _ (by omega)
          have hq10 : u / 10 ≤ u := Nat.div_le_self _ _
          obtain ⟨r, hr'⟩ : ∃ r, r = u % 10 := ⟨_, rfl⟩
          obtain ⟨q, hq'⟩ : ∃ q, q = u / 10 := ⟨_, rfl⟩
          rw [← hr'] at hmod hd10
          rw [← hq'] at hdiv hq10
          have hdl : dg u = dg q ++ [UInt8.ofNat (48 + r)] := by rw [hr', hq']; exact dg_step u hu0
          have hcr := digit_of r hd10
          generalize UInt8.ofNat (48 + r) = ch at *
          have hcv : (convert 44 9 (.slice (some ⟨wr.heap.size, 0, none⟩) 1 1)).run Tryz.prog (wr.alloc (.cells #[.int .u8 (48 + (r : Int))] 5)) = .ok (.string ⟨#[ch]⟩) (wr.alloc (.cells #[.int .u8 (48 + (r : Int))] 5)) := run_convert_bytes_back (P := Tryz.prog) (wr.alloc (.cells #[.int .u8 (48 + (r : Int))] 5)) 44 9 5 ⟨wr.heap.size, 0, none⟩ 1 [ch] Tryz.underlying44 Tryz.underlying5 Tryz.underlying9 (fun j hj => by
            have : j = 0 := by simp at hj; omega
            subst this
            simp [go_sem, hcr])
          obtain ⟨T1, e1, n1, q1⟩ := cat_op (P := Tryz.prog) [ch] out (by simp) (by omega)
          have HT : Hid (dg q ++ T1 = itoa n) := Lib.hid (by rw [← hdg, hdl, e1, List.append_assoc])
          have hqu : q < u := by omega
          have hT20 : T1.length ≤ 21 := len20 (dg q) T1 n HT.out h1 h2
          have hbW := hb.alloc hb.size (.cells #[.int .u8 (48 + (r : Int))] 5)
          clear e1 hdl hr' hq' hdg hu0 hcr
          go_wp2
          go_roundw
          case rel => exact ⟨q, T1, by go_num, by omega, rfl, hT20, HT.out, hbW⟩
          case measure => simp [RowKit.intOf]; omega
    · have hn : n < 0 := by omega
      have b1 : ¬ (0 : Int) < n := by omega
      have hit : itoa n = 45 :: decDigits n.natAbs := by unfold itoa; rw [if_pos hn]
      have hDl := itoa_length_le n h1 h2
      rw [hit, List.length_cons] at hDl
      have HIT := Lib.hid hit
      have hDg : dg n.natAbs = decDigits n.natAbs := by unfold dg; rw [if_neg (by omega)]
      have HDG := Lib.hid hDg
      have hna : n = -((n.natAbs : Nat) : Int) := by omega
      have hnb : (n.natAbs : Int) ≤ 9223372036854775808 := by omega
      have HNA := Lib.hid hna
      clear hit hDg hna
      generalize decDigits n.natAbs = D at *
      generalize hK : n.natAbs = K at *
      clear hK
      go_enter Tryz.func35, Tryz.ntmps35
      go_wp2
      go_loopw [3, 4] (fun m o wr => ∃ (u : Nat) (out : List UInt8), m = .int .i64 (-(u : Int)) ∧ (u : Int) ≤ 9223372036854775808 ∧ o = .string ⟨out.toArray⟩ ∧ out.length ≤ 21 ∧ dg u ++ out = D ∧ Below w.heap.size w wr) (fun m _ _ => (-(RowKit.intOf m)).toNat)
      case atStart => exact ⟨K, [], by rw [← HNA.out], hnb, rfl, by simp, by rw [List.append_nil]; exact HDG.out, Below.refl _ _⟩
      case round =>
        obtain ⟨u, out, rfl, hu, rfl, hol, hdg, hb⟩ := hrel
        by_cases hu0 : u = 0
        · subst hu0
          have HO : Hid (out = D) := Lib.hid (by simpa [dg] using hdg)
          clear hdg
          obtain ⟨T1, e1, n1, q1⟩ := cat_op (P := Tryz.prog) [45] out (by simp) (by omega)
          have HT : Hid (T1 = itoa n) := Lib.hid (by rw [e1, HO.out, HIT.out]; rfl)
          clear e1
          go_wp2
          go_ret
          exact ⟨by rw [← HT.out]; rfl, hb⟩
        · have hlt : -(u : Int) < 0 := by omega
          have hmod : (-(u : Int)).tmod 10 = -((u % 10 : Nat) : Int) := by rw [Int.neg_tmod]; rfl
          have hdiv : (-(u : Int)).tdiv 10 = -((u / 10 : Nat) : Int) := by rw [Int.neg_tdiv]; rfl
          have hd10 : u % 10 < 10 := Nat.mod_lt _ (by omega)
          have hq10 : u / 10 ≤ u := Nat.div_le_self _ _
          obtain ⟨r, hr'⟩ : ∃ r, r = u % 10 := ⟨_, rfl⟩
          obtain ⟨q, hq'⟩ : ∃ q, q = u / 10 := ⟨_, rfl⟩
          rw [← hr'] at hmod hd10
          rw [← hq'] at hdiv hq10
          have hdl : dg u = dg q ++ [UInt8.ofNat (48 + r)] := by rw [hr', hq']; exact dg_step u hu0
          have hcr := digit_of r hd10
          generalize UInt8.ofNat (48 + r) = ch at *
          have hcv : (convert 44 9 (.slice (some ⟨wr.heap.size, 0, none⟩) 1 1)).run Tryz.prog (wr.alloc (.cells #[.int .u8 (48 + (r : Int))] 5)) = .ok (.string ⟨#[ch]⟩) (wr.alloc (.cells #[.int .u8 (48 + (r : Int))] 5)) := run_convert_bytes_back (P := Tryz.prog) (wr.alloc (.cells #[.int .u8 (48 + (r : Int))] 5)) 44 9 5 ⟨wr.heap.size, 0, none⟩ 1 [ch] Tryz.underlying44 Tryz.underlying5 Tryz.underlying9 (fun j hj => by
            have : j = 0 := by simp at hj; omega
            subst this
            simp [go_sem, hcr])
          obtain ⟨T1, e1, n1, q1⟩ := cat_op (P := Tryz.prog) [ch] out (by simp) (by omega)
          have HT : Hid (dg q ++ T1 = D) := Lib.hid (by rw [← hdg, hdl, e1, List.append_assoc])
          have hqu : q < u := by omega
          have hT20 : T1.length ≤ 21 := len21 (dg q) T1 D HT.out (by omega)
          have hbW := hb.alloc hb.size (.cells #[.int .u8 (48 + (r : Int))] 5)
          clear e1 hdl hr' hq' hdg hu0 hcr
          go_wp2
          go_roundw
          case rel => exact ⟨q, T1, by go_num, by omega, rfl, hT20, HT.out, hbW⟩
          case measure => simp [RowKit.intOf]; omega
end Go.Proofs.YthlfpiflegfoiaaGreatDoor
