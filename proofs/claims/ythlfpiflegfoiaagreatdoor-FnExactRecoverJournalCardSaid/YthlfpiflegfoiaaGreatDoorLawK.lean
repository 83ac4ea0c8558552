/- Sentences, walked: the reference's. -/
import Derived.Test.YthlfpiflegfoiaaGreatDoorLawF
namespace Go.Proofs.YthlfpiflegfoiaaGreatDoor
open Go.RowKit

theorem okSent_head {l : List UInt8} (h : l.length < 1 ∨ 24 < l.length ∨ byteAt l 0 = 32 ∨ byteAt l (l.length - 1) = 32) : okSent l = false := by
  unfold okSent
  rcases h with h | h | h | h
  · have : decide (1 ≤ l.length) = false := decide_eq_false (by omega)
    rw [this]; simp
  · have : decide (l.length ≤ 24) = false := decide_eq_false (by omega)
    rw [this]; simp
  · simp [h]
  · simp [h]
theorem okSent_all {l : List UInt8} (h1 : 1 ≤ l.length) (h2 : l.length ≤ 24) (h3 : byteAt l 0 ≠ 32) (h4 : byteAt l (l.length - 1) ≠ 32) (h : allLt l.length (fun j => sentCh (byteAt l j)) = true) : okSent l = true := by
  unfold okSent
  rw [h]
  simp [h1, h2, h3, h4]

set_option maxHeartbeats 2000000 in
theorem sent1_any (s : ByteArray) (w : World) (hs : s.size ≤ maxLen) :
    Calls Tryz.prog 117 #[.string s] w (RetQ (.bool (okSent s.toList)) w) := by
  rw [ByteArray.toList_eq]
  unfold maxLen at hs
  have hsz : s.data.toList.length = s.size := by simp
  by_cases c1 : s.size < 1
  · have HB := Lib.hid (okSent_head (l := s.data.toList) (.inl (by omega)))
    have b1 : decide ((s.size : Int) < 1) = true := by simp; omega
    clear hsz c1
    go_enter Tryz.func117, Tryz.ntmps117
    go_wp2
    go_ret
    exact ⟨by rw [HB.out]; rfl, 0, rfl⟩
  by_cases c2 : 24 < s.size
  · have HB := Lib.hid (okSent_head (l := s.data.toList) (.inr (.inl (by omega))))
    have b1 : decide ((s.size : Int) < 1) = false := by simp; omega
    have b2 : decide ((24 : Int) < (s.size : Int)) = true := by simp; omega
    clear hsz c1 c2
    go_enter Tryz.func117, Tryz.ntmps117
    go_wp2
    go_ret
    exact ⟨by rw [HB.out]; rfl, 0, rfl⟩
  have p0n : 0 < s.size := by omega
  have pln : s.size - 1 < s.size := by omega
  have d0 := byteAt_of s 0 p0n
  have d1 := byteAt_of s (s.size - 1) pln
  have b1 : decide ((s.size : Int) < 1) = false := by simp; omega
  have b2 : decide ((24 : Int) < (s.size : Int)) = false := by simp; omega
  have p0 : (0 : Int) < (s.size : Int) := by omega
  have e1 : (1 : Int) ≤ (s.size : Int) := by omega
  by_cases c3 : (s[0]'p0n).toNat = 32
  · have HB := Lib.hid (okSent_head (l := s.data.toList) (.inr (.inr (.inl (by rw [d0]; exact c3)))))
    have b3 : (((s[0]'p0n).toNat : Int) == 32) = true := by simp; omega
    clear hsz c1 c2 c3 d0 d1
    go_enter Tryz.func117, Tryz.ntmps117
    go_wp2
    go_ret
    exact ⟨by rw [HB.out]; rfl, 0, rfl⟩
  have b3 : (((s[0]'p0n).toNat : Int) == 32) = false := by simp; omega
  by_cases c4 : (s[s.size - 1]'pln).toNat = 32
  · have HB := Lib.hid (okSent_head (l := s.data.toList) (.inr (.inr (.inr (by rw [hsz, d1]; exact c4)))))
    have b4 : (((s[s.size - 1]'pln).toNat : Int) == 32) = true := by simp; omega
    clear hsz c1 c2 c3 c4 d0 d1
    go_enter Tryz.func117, Tryz.ntmps117
    go_wp2
    go_ret
    exact ⟨by rw [HB.out]; rfl, 0, rfl⟩
  have b4 : (((s[s.size - 1]'pln).toNat : Int) == 32) = false := by simp; omega
  have HALL := Lib.hid (fun h => okSent_all (l := s.data.toList) (by omega) (by omega) (by rw [d0]; exact c3) (by rw [hsz, d1]; exact c4) h)
  clear c1 c2 c3 c4 d0 d1
  go_enter Tryz.func117, Tryz.ntmps117
  go_wp2
  go_loop [3] (fun i => ∃ k : Nat, k ≤ s.size ∧ i = .int .i64 (k : Int) ∧ allLt k (fun j => sentCh (byteAt s.data.toList j)) = true) (fun i => s.size - (intOf i).toNat)
  case atStart => exact ⟨0, Nat.zero_le _, rfl, rfl⟩
  case round =>
    obtain ⟨k, hk, rfl, hall⟩ := hrel
    have HA := Lib.hid hall
    clear hall
    by_cases hlt : k < s.size
    · have hc := byteAt_of s k hlt
      have HS := allLt_succ k (fun j => sentCh (byteAt s.data.toList j))
      rw [HA.out, Bool.true_and, hc] at HS
      have HS := Lib.hid HS
      have HC := Lib.hid hc
      clear hc b1 b2 b3 b4
      have hh : (97 ≤ s[k].toNat ∧ s[k].toNat ≤ 122) ∨ (122 < s[k].toNat) ∨ (48 ≤ s[k].toNat ∧ s[k].toNat ≤ 57) ∨ (57 < s[k].toNat ∧ s[k].toNat < 97) ∨ s[k].toNat = 32 ∨ (s[k].toNat < 48 ∧ s[k].toNat ≠ 32) := by omega
      rcases hh with hh | hh | hh | hh | hh | hh
      · have aa : decide ((97 : Int) ≤ (s[k].toNat : Int)) = true := by simp; omega
        have ab : decide ((s[k].toNat : Int) ≤ 122) = true := by simp; omega
        have ae : ((s[k].toNat : Int) == 32) = false := by simp; omega
        have hsc : sentCh s[k].toNat = true := (sentCh_iff _).2 (by omega)
        have HSC := Lib.hid hsc
        clear hsc hh
        go_wp2
        go_round
        case rel => exact ⟨k + 1, by omega, by go_num, HS.out.trans HSC.out⟩
        case measure => simp [intOf]; omega
      · have aa : decide ((97 : Int) ≤ (s[k].toNat : Int)) = true := by simp; omega
        have ab : decide ((s[k].toNat : Int) ≤ 122) = false := by simp; omega
        have ac : decide ((48 : Int) ≤ (s[k].toNat : Int)) = true := by simp; omega
        have ad : decide ((s[k].toNat : Int) ≤ 57) = false := by simp; omega
        have ae : ((s[k].toNat : Int) == 32) = false := by simp; omega
        have hsc : sentCh s[k].toNat = false := sentCh_false (by omega)
        have HSC := Lib.hid hsc
        clear hsc hh
        go_wp2
        go_ret
        exact ⟨by rw [okSent_bad s.data.toList k (by simpa using hlt) (by rw [HC.out]; exact HSC.out)]; rfl, 0, rfl⟩
      · have aa : decide ((97 : Int) ≤ (s[k].toNat : Int)) = false := by simp; omega
        have ab : decide ((s[k].toNat : Int) ≤ 122) = true := by simp; omega
        have ac : decide ((48 : Int) ≤ (s[k].toNat : Int)) = true := by simp; omega
        have ad : decide ((s[k].toNat : Int) ≤ 57) = true := by simp; omega
        have ae : ((s[k].toNat : Int) == 32) = false := by simp; omega
        have hsc : sentCh s[k].toNat = true := (sentCh_iff _).2 (by omega)
        have HSC := Lib.hid hsc
        clear hsc hh
        go_wp2
        go_round
        case rel => exact ⟨k + 1, by omega, by go_num, HS.out.trans HSC.out⟩
        case measure => simp [intOf]; omega
      · have aa : decide ((97 : Int) ≤ (s[k].toNat : Int)) = false := by simp; omega
        have ab : decide ((s[k].toNat : Int) ≤ 122) = true := by simp; omega
        have ac : decide ((48 : Int) ≤ (s[k].toNat : Int)) = true := by simp; omega
        have ad : decide ((s[k].toNat : Int) ≤ 57) = false := by simp; omega
        have ae : ((s[k].toNat : Int) == 32) = false := by simp; omega
        have hsc : sentCh s[k].toNat = false := sentCh_false (by omega)
        have HSC := Lib.hid hsc
        clear hsc hh
        go_wp2
        go_ret
        exact ⟨by rw [okSent_bad s.data.toList k (by simpa using hlt) (by rw [HC.out]; exact HSC.out)]; rfl, 0, rfl⟩
      · have aa : decide ((97 : Int) ≤ (s[k].toNat : Int)) = false := by simp; omega
        have ab : decide ((s[k].toNat : Int) ≤ 122) = true := by simp; omega
        have ac : decide ((48 : Int) ≤ (s[k].toNat : Int)) = false := by simp; omega
        have ad : decide ((s[k].toNat : Int) ≤ 57) = true := by simp; omega
        have ae : ((s[k].toNat : Int) == 32) = true := by simp; omega
        have hsc : sentCh s[k].toNat = true := (sentCh_iff _).2 (by omega)
        have HSC := Lib.hid hsc
        clear hsc hh
        go_wp2
        go_round
        case rel => exact ⟨k + 1, by omega, by go_num, HS.out.trans HSC.out⟩
        case measure => simp [intOf]; omega
      · have aa : decide ((97 : Int) ≤ (s[k].toNat : Int)) = false := by simp; omega
        have ab : decide ((s[k].toNat : Int) ≤ 122) = true := by simp; omega
        have ac : decide ((48 : Int) ≤ (s[k].toNat : Int)) = false := by simp; omega
        have ad : decide ((s[k].toNat : Int) ≤ 57) = true := by simp; omega
        have ae : ((s[k].toNat : Int) == 32) = false := by simp; omega
        have hsc : sentCh s[k].toNat = false := sentCh_false (by omega)
        have HSC := Lib.hid hsc
        clear hsc hh
        go_wp2
        go_ret
        exact ⟨by rw [okSent_bad s.data.toList k (by simpa using hlt) (by rw [HC.out]; exact HSC.out)]; rfl, 0, rfl⟩
    · have hk' : k = s.size := by omega
      have HK := Lib.hid (HALL.out (by rw [hsz, ← hk']; exact HA.out))
      have hge : ¬ (k : Int) < (s.size : Int) := by omega
      clear hk' hlt hsz
      go_wp2
      go_ret
      exact ⟨by rw [HK.out]; rfl, 0, rfl⟩
end Go.Proofs.YthlfpiflegfoiaaGreatDoor
