/- Sentences, edits and patches: the program's tests, walked. -/
import Derived.Test.YthlfpiflegfoiaaGreatDoorInA
import Derived.Test.YthlfpiflegfoiaaGreatDoorInB
import Derived.Test.YthlfpiflegfoiaaGreatDoorMem
import Derived.Test.YthlfpiflegfoiaaGreatDoorTx
namespace Go.Proofs.YthlfpiflegfoiaaGreatDoor
open Go.RowKit

theorem byteAt_of (s : ByteArray) (k : Nat) (h : k < s.size) : byteAt s.data.toList k = s[k].toNat := by
  unfold byteAt
  rw [List.getD_eq_getElem?_getD, List.getElem?_eq_getElem (by simpa using h)]
  rfl

theorem sentCh_iff (c : Nat) : sentCh c = true ↔ (97 ≤ c ∧ c ≤ 122) ∨ (48 ≤ c ∧ c ≤ 57) ∨ c = 32 := by
  unfold sentCh
  simp [or_assoc]
theorem sentCh_false {c : Nat} (h : ¬ ((97 ≤ c ∧ c ≤ 122) ∨ (48 ≤ c ∧ c ≤ 57) ∨ c = 32)) : sentCh c = false := by
  rw [Bool.eq_false_iff]
  exact fun e => h ((sentCh_iff c).1 e)
theorem okSent_bad (l : List UInt8) (k : Nat) (hk : k < l.length) (h : sentCh (byteAt l k) = false) : okSent l = false := by
  unfold okSent
  rw [allLt_false hk h]
  rfl

set_option maxHeartbeats 2000000 in
theorem sent2_any (s : ByteArray) (w : World) (hs : s.size ≤ maxLen) :
    Calls Tryz.prog 108 #[.string s] w (RetQ (.bool (okSent s.toList)) w) := by
  rw [ByteArray.toList_eq]
  unfold maxLen at hs
  go_enter Tryz.func108, Tryz.ntmps108
  go_wp2
  go_loop [3, 6] (fun _ i => ∃ k : Nat, k ≤ s.size ∧ i = .int .i64 (k : Int) ∧ allLt k (fun j => sentCh (byteAt s.data.toList j)) = true) (fun _ i => s.size - (intOf i).toNat)
  case atStart => exact ⟨0, Nat.zero_le _, rfl, rfl⟩
  case round =>
    obtain ⟨k, hk, rfl, hall⟩ := hrel
    have HA := Lib.hid hall
    clear hall
    by_cases hlt : k < s.size
    · have hc := byteAt_of s k hlt
      have HS := allLt_succ k (fun j => sentCh (byteAt s.data.toList j))
      rw [HA.out, Bool.true_and, hc] at HS
      have HS := Lib.hid HS
      have HC := Lib.hid hc
      clear hc
      have hh : (97 ≤ s[k].toNat ∧ s[k].toNat ≤ 122) ∨ (122 < s[k].toNat) ∨ (48 ≤ s[k].toNat ∧ s[k].toNat ≤ 57) ∨ (57 < s[k].toNat ∧ s[k].toNat < 97) ∨ s[k].toNat = 32 ∨ (s[k].toNat < 48 ∧ s[k].toNat ≠ 32) := by omega
      rcases hh with hh | hh | hh | hh | hh | hh
      · have a1 : ¬ (s[k].toNat : Int) < 97 := by omega
        have a2 : decide ((122 : Int) < (s[k].toNat : Int)) = false := by simp; omega
        have hsc : sentCh s[k].toNat = true := (sentCh_iff _).2 (by omega)
        have HSC := Lib.hid hsc
        clear hsc hh
        go_wp2
        go_round
        case rel => exact ⟨k + 1, by omega, by go_num, HS.out.trans HSC.out⟩
        case measure => simp [intOf]; omega
      · have a1 : ¬ (s[k].toNat : Int) < 97 := by omega
        have a2 : (122 : Int) < (s[k].toNat : Int) := by omega
        have a3 : ¬ (s[k].toNat : Int) < 48 := by omega
        have a4 : (57 : Int) < (s[k].toNat : Int) := by omega
        have a5 : ((s[k].toNat : Int) != 32) = true := by rw [bne_iff_ne]; omega
        have a6 : ((s[k].toNat : Int) == 32) = false := by rw [beq_eq_false_iff_ne]; omega
        have hsc : sentCh s[k].toNat = false := sentCh_false (by omega)
        have HSC := Lib.hid hsc
        clear hsc hh
        go_wp2
        go_ret
        exact ⟨by rw [okSent_bad s.data.toList k (by simpa using hlt) (by rw [HC.out]; exact HSC.out)]; rfl, 0, rfl⟩
      · have a1 : (s[k].toNat : Int) < 97 := by omega
        have a3 : ¬ (s[k].toNat : Int) < 48 := by omega
        have a4 : decide ((57 : Int) < (s[k].toNat : Int)) = false := by simp; omega
        have hsc : sentCh s[k].toNat = true := (sentCh_iff _).2 (by omega)
        have HSC := Lib.hid hsc
        clear hsc hh
        go_wp2
        go_round
        case rel => exact ⟨k + 1, by omega, by go_num, HS.out.trans HSC.out⟩
        case measure => simp [intOf]; omega
      · have a1 : (s[k].toNat : Int) < 97 := by omega
        have a3 : ¬ (s[k].toNat : Int) < 48 := by omega
        have a4 : (57 : Int) < (s[k].toNat : Int) := by omega
        have a5 : ((s[k].toNat : Int) != 32) = true := by rw [bne_iff_ne]; omega
        have a6 : ((s[k].toNat : Int) == 32) = false := by rw [beq_eq_false_iff_ne]; omega
        have hsc : sentCh s[k].toNat = false := sentCh_false (by omega)
        have HSC := Lib.hid hsc
        clear hsc hh
        go_wp2
        go_ret
        exact ⟨by rw [okSent_bad s.data.toList k (by simpa using hlt) (by rw [HC.out]; exact HSC.out)]; rfl, 0, rfl⟩
      · have a1 : (s[k].toNat : Int) < 97 := by omega
        have a3 : (s[k].toNat : Int) < 48 := by omega
        have a5 : ((s[k].toNat : Int) != 32) = false := by simp; omega
        have a6 : ((s[k].toNat : Int) == 32) = true := by simp; omega
        have hsc : sentCh s[k].toNat = true := (sentCh_iff _).2 (by omega)
        have HSC := Lib.hid hsc
        clear hsc hh
        go_wp2
        go_round
        case rel => exact ⟨k + 1, by omega, by go_num, HS.out.trans HSC.out⟩
        case measure => simp [intOf]; omega
      · have a1 : (s[k].toNat : Int) < 97 := by omega
        have a3 : (s[k].toNat : Int) < 48 := by omega
        have a5 : ((s[k].toNat : Int) != 32) = true := by rw [bne_iff_ne]; omega
        have a6 : ((s[k].toNat : Int) == 32) = false := by rw [beq_eq_false_iff_ne]; omega
        have hsc : sentCh s[k].toNat = false := sentCh_false (by omega)
        have HSC := Lib.hid hsc
        clear hsc hh
        go_wp2
        go_ret
        exact ⟨by rw [okSent_bad s.data.toList k (by simpa using hlt) (by rw [HC.out]; exact HSC.out)]; rfl, 0, rfl⟩
    · have hk' : k = s.size := by omega
      have hdec : okSent s.data.toList = (decide (1 ≤ s.size) && decide (s.size ≤ 24) && decide (byteAt s.data.toList 0 ≠ 32) && decide (byteAt s.data.toList (s.size - 1) ≠ 32)) := by
        unfold okSent
        have e : s.data.toList.length = s.size := by simp
        rw [e]
        have h := HA.out
        rw [hk'] at h
        rw [h, Bool.true_and]
      have HD := Lib.hid hdec
      clear hdec
      have hlt2 : decide ((k : Int) < (s.size : Int)) = false := by simp; omega
      by_cases h1 : 1 ≤ s.size
      · by_cases h2 : s.size ≤ 24
        · have b0 := byteAt_of s 0 (by omega)
          have b1 := byteAt_of s (s.size - 1) (by omega)
          have B0 := Lib.hid b0
          have B1 := Lib.hid b1
          have e1 : (1 : Int) ≤ (s.size : Int) := by omega
          have e2 : decide ((s.size : Int) ≤ 24) = true := by simp; omega
          clear b0 b1 hk' hlt2
          have hge : ¬ (k : Int) < (s.size : Int) := by omega
          by_cases h3 : s[0].toNat = 32
          · have e3 : ((s[0].toNat : Int) != 32) = false := by simp; omega
            go_wp2
            go_ret
            exact ⟨by rw [HD.out, B0.out]; simp [h3], 0, rfl⟩
          · have e3 : ((s[0].toNat : Int) != 32) = true := by simp; omega
            by_cases h4 : s[s.size - 1].toNat = 32
            · have e4 : ((s[s.size - 1].toNat : Int) != 32) = false := by simp; omega
              go_wp2
              go_ret
              exact ⟨by rw [HD.out, B1.out]; simp [h4], 0, rfl⟩
            · have e4 : ((s[s.size - 1].toNat : Int) != 32) = true := by simp; omega
              go_wp2
              go_ret
              exact ⟨by rw [HD.out, B0.out, B1.out]; simp [h1, h2, h3, h4], 0, rfl⟩
        · have e1 : (1 : Int) ≤ (s.size : Int) := by omega
          have e2 : decide ((s.size : Int) ≤ 24) = false := by simp; omega
          have hge : ¬ (k : Int) < (s.size : Int) := by omega
          clear hk' hlt2
          have H2 := Lib.hid h2
          clear h2
          go_wp2
          go_ret
          exact ⟨by rw [HD.out]; simp [H2.out], 0, rfl⟩
      · have e1 : decide ((1 : Int) ≤ (s.size : Int)) = false := by simp; omega
        have hge : ¬ (k : Int) < (s.size : Int) := by omega
        have H1 := Lib.hid h1
        clear hk' hlt2 h1
        go_wp2
        go_ret
        exact ⟨by rw [HD.out]; simp [H1.out], 0, rfl⟩
end Go.Proofs.YthlfpiflegfoiaaGreatDoor
