/- Names and small tests, walked: the program's and the reference's. -/
import Derived.Test.YthlfpiflegfoiaaGreatDoorLawC
namespace Go.Proofs.YthlfpiflegfoiaaGreatDoor
open Go.RowKit

def nameCh (c : Nat) : Bool := decide (97 ≤ c) && decide (c ≤ 122)
theorem okName_bad (l : List UInt8) (k : Nat) (hk : k < l.length) (h : nameCh (byteAt l k) = false) : okName l = false := by
  unfold okName
  have h' : (decide (97 ≤ byteAt l k) && decide (byteAt l k ≤ 122)) = false := h
  rw [allLt_false (f := fun k => decide (97 ≤ byteAt l k) && decide (byteAt l k ≤ 122)) hk h']
  rfl

set_option maxHeartbeats 2000000 in
theorem name2_any (s : ByteArray) (w : World) (hs : s.size ≤ maxLen) :
    Calls Tryz.prog 67 #[.string s] w (RetQ (.bool (okName s.toList)) w) := by
  rw [ByteArray.toList_eq]
  unfold maxLen at hs
  go_enter Tryz.func67, Tryz.ntmps67
  go_wp2
  go_loop [3, 6] (fun _ i => ∃ k : Nat, k ≤ s.size ∧ i = .int .i64 (k : Int) ∧ allLt k (fun j => nameCh (byteAt s.data.toList j)) = true) (fun _ i => s.size - (intOf i).toNat)
  case atStart => exact ⟨0, Nat.zero_le _, rfl, rfl⟩
  case round =>
    obtain ⟨k, hk, rfl, hall⟩ := hrel
    have HA := Lib.hid hall
    clear hall
    by_cases hlt : k < s.size
    · have hc := byteAt_of s k hlt
      have HS := allLt_succ k (fun j => nameCh (byteAt s.data.toList j))
      rw [HA.out, Bool.true_and, hc] at HS
      have HS := Lib.hid HS
      have HC := Lib.hid hc
      clear hc
      have hh : (97 ≤ s[k].toNat ∧ s[k].toNat ≤ 122) ∨ (122 < s[k].toNat) ∨ s[k].toNat < 97 := by omega
      rcases hh with hh | hh | hh
      · have a1 : ¬ (s[k].toNat : Int) < 97 := by omega
        have a2 : decide ((122 : Int) < (s[k].toNat : Int)) = false := by simp; omega
        have hsc : nameCh s[k].toNat = true := by unfold nameCh; simp [hh.1, hh.2]
        have HSC := Lib.hid hsc
        clear hsc hh
        go_wp2
        go_round
        case rel => exact ⟨k + 1, by omega, by go_num, HS.out.trans HSC.out⟩
        case measure => simp [intOf]; omega
      · have a1 : ¬ (s[k].toNat : Int) < 97 := by omega
        have a2 : decide ((122 : Int) < (s[k].toNat : Int)) = true := by simp; omega
        have hsc : nameCh s[k].toNat = false := by unfold nameCh; simp; omega
        have HB := Lib.hid (okName_bad s.data.toList k (by simpa using hlt) (by rw [HC.out]; exact hsc))
        clear hsc hh
        go_wp2
        go_ret
        exact ⟨by rw [HB.out]; rfl, 0, rfl⟩
      · have a1 : (s[k].toNat : Int) < 97 := by omega
        have hsc : nameCh s[k].toNat = false := by unfold nameCh; simp; omega
        have HB := Lib.hid (okName_bad s.data.toList k (by simpa using hlt) (by rw [HC.out]; exact hsc))
        clear hsc hh
        go_wp2
        go_ret
        exact ⟨by rw [HB.out]; rfl, 0, rfl⟩
    · have hk' : k = s.size := by omega
      have hdec : okName s.data.toList = (decide (1 ≤ s.size) && decide (s.size ≤ 10)) := by
        unfold okName
        have e : s.data.toList.length = s.size := by simp
        rw [e]
        have h := HA.out
        rw [hk'] at h
        have h' : allLt s.size (fun k => decide (97 ≤ byteAt s.data.toList k) && decide (byteAt s.data.toList k ≤ 122)) = true := h
        rw [h', Bool.true_and]
      have HD := Lib.hid hdec
      have hge : ¬ (k : Int) < (s.size : Int) := by omega
      clear hdec hk' hlt
      by_cases h1 : 1 ≤ s.size
      · have e1 : decide ((1 : Int) ≤ (s.size : Int)) = true := by simp; omega
        by_cases h2 : s.size ≤ 10
        · have e2 : decide ((s.size : Int) ≤ 10) = true := by simp; omega
          have H1 := Lib.hid h1
          have H2 := Lib.hid h2
          clear h1 h2
          go_wp2
          go_ret
          exact ⟨by rw [HD.out]; simp [H1.out, H2.out], 0, rfl⟩
        · have e2 : decide ((s.size : Int) ≤ 10) = false := by simp; omega
          have H2 := Lib.hid h2
          clear h1 h2
          go_wp2
          go_ret
          exact ⟨by rw [HD.out]; simp [H2.out], 0, rfl⟩
      · have e1 : decide ((1 : Int) ≤ (s.size : Int)) = false := by simp; omega
        have H1 := Lib.hid h1
        clear h1
        go_wp2
        go_ret
        exact ⟨by rw [HD.out]; simp [H1.out], 0, rfl⟩

set_option maxHeartbeats 2000000 in
theorem name1_any (s : ByteArray) (w : World) (hs : s.size ≤ maxLen) :
    Calls Tryz.prog 81 #[.string s] w (RetQ (.bool (okName s.toList)) w) := by
  rw [ByteArray.toList_eq]
  unfold maxLen at hs
  go_enter Tryz.func81, Tryz.ntmps81
  go_wp2
  go_loop [3] (fun i => ∃ k : Nat, k ≤ s.size ∧ i = .int .i64 (k : Int) ∧ allLt k (fun j => nameCh (byteAt s.data.toList j)) = true) (fun i => s.size - (intOf i).toNat)
  case atStart => exact ⟨0, Nat.zero_le _, rfl, rfl⟩
  case round =>
    obtain ⟨k, hk, rfl, hall⟩ := hrel
    have HA := Lib.hid hall
    clear hall
    by_cases hlt : k < s.size
    · have hc := byteAt_of s k hlt
      have HS := allLt_succ k (fun j => nameCh (byteAt s.data.toList j))
      rw [HA.out, Bool.true_and, hc] at HS
      have HS := Lib.hid HS
      have HC := Lib.hid hc
      clear hc
      have hh : (97 ≤ s[k].toNat ∧ s[k].toNat ≤ 122) ∨ (122 < s[k].toNat) ∨ s[k].toNat < 97 := by omega
      rcases hh with hh | hh | hh
      · have a1 : ¬ (s[k].toNat : Int) < 97 := by omega
        have a2 : decide ((122 : Int) < (s[k].toNat : Int)) = false := by simp; omega
        have hsc : nameCh s[k].toNat = true := by unfold nameCh; simp [hh.1, hh.2]
        have HSC := Lib.hid hsc
        clear hsc hh
        go_wp2
        go_round
        case rel => exact ⟨k + 1, by omega, by go_num, HS.out.trans HSC.out⟩
        case measure => simp [intOf]; omega
      · have a1 : ¬ (s[k].toNat : Int) < 97 := by omega
        have a2 : decide ((122 : Int) < (s[k].toNat : Int)) = true := by simp; omega
        have hsc : nameCh s[k].toNat = false := by unfold nameCh; simp; omega
        have HB := Lib.hid (okName_bad s.data.toList k (by simpa using hlt) (by rw [HC.out]; exact hsc))
        clear hsc hh
        go_wp2
        go_ret
        exact ⟨by rw [HB.out]; rfl, 0, rfl⟩
      · have a1 : (s[k].toNat : Int) < 97 := by omega
        have hsc : nameCh s[k].toNat = false := by unfold nameCh; simp; omega
        have HB := Lib.hid (okName_bad s.data.toList k (by simpa using hlt) (by rw [HC.out]; exact hsc))
        clear hsc hh
        go_wp2
        go_ret
        exact ⟨by rw [HB.out]; rfl, 0, rfl⟩
    · have hk' : k = s.size := by omega
      have hdec : okName s.data.toList = (decide (1 ≤ s.size) && decide (s.size ≤ 10)) := by
        unfold okName
        have e : s.data.toList.length = s.size := by simp
        rw [e]
        have h := HA.out
        rw [hk'] at h
        have h' : allLt s.size (fun k => decide (97 ≤ byteAt s.data.toList k) && decide (byteAt s.data.toList k ≤ 122)) = true := h
        rw [h', Bool.true_and]
      have HD := Lib.hid hdec
      have hge : ¬ (k : Int) < (s.size : Int) := by omega
      clear hdec hk' hlt
      by_cases h1 : 1 ≤ s.size
      · have e1 : decide ((1 : Int) ≤ (s.size : Int)) = true := by simp; omega
        by_cases h2 : s.size ≤ 10
        · have e2 : decide ((s.size : Int) ≤ 10) = true := by simp; omega
          have H1 := Lib.hid h1
          have H2 := Lib.hid h2
          clear h1 h2
          go_wp2
          go_ret
          exact ⟨by rw [HD.out]; simp [H1.out, H2.out], 0, rfl⟩
        · have e2 : decide ((s.size : Int) ≤ 10) = false := by simp; omega
          have H2 := Lib.hid h2
          clear h1 h2
          go_wp2
          go_ret
          exact ⟨by rw [HD.out]; simp [H2.out], 0, rfl⟩
      · have e1 : decide ((1 : Int) ≤ (s.size : Int)) = false := by simp; omega
        have H1 := Lib.hid h1
        clear h1
        go_wp2
        go_ret
        exact ⟨by rw [HD.out]; simp [H1.out], 0, rfl⟩

theorem vote2_any (n : Int) (w : World) : Calls Tryz.prog 68 #[.int .i64 n] w (RetQ (.bool (inB n 0 3)) w) := by
  have H := Lib.hid (in2_any n 0 3 w)
  go_enter Tryz.func68, Tryz.ntmps68
  go_wp2_with (fail)
  refine H.out.mono ?_
  rintro e w1 ⟨rfl, k, rfl⟩
  go_wp2
  go_ret
  exact ⟨rfl, k, rfl⟩

theorem any2_any (n : Int) (w : World) : Calls Tryz.prog 65 #[.int .i64 n] w (RetQ (.bool (inB n 0 11)) w) := by
  have H := Lib.hid (in2_any n 0 11 w)
  go_enter Tryz.func65, Tryz.ntmps65
  go_wp2_with (fail)
  refine H.out.mono ?_
  rintro e w1 ⟨rfl, k, rfl⟩
  go_wp2
  go_ret
  exact ⟨rfl, k, rfl⟩

set_option maxHeartbeats 1000000 in
theorem prop2_any (es : List Edit) (w : World) (v : Value) (closes start until_ : Int) (h : Edits w w.heap.size v es) (hs : SizesOk es) :
    Calls Tryz.prog 69 #[v, .int .i64 closes, .int .i64 start, .int .i64 until_] w (RetB (.bool (okSpan es closes start until_)) w) := by
  have HP := Lib.hid (patch2_any es w v h hs)
  have hv : ∃ A c, v = .slice A es.length c := by
    obtain ⟨A, c, hv, _⟩ := h
    exact ⟨A, c, hv⟩
  obtain ⟨A, c, rfl⟩ := hv
  clear h hs
  cases es with
  | nil =>
    go_enter Tryz.func69, Tryz.ntmps69
    go_wp2
    go_ret
    exact ⟨rfl, Below.refl _ _⟩
  | cons d ds =>
    have hl : decide ((0 : Int) < ((d :: ds).length : Int)) = true := by simp
    have hl2 : decide (0 < (d :: ds).length) = true := by simp
    generalize hes : d :: ds = es at *
    have hne : es.isEmpty = false := by rw [← hes]; rfl
    have HNE := Lib.hid hne
    clear hne hes
    go_enter Tryz.func69, Tryz.ntmps69
    go_wp2_with (fail)
    refine HP.out.mono ?_
    rintro e w1 ⟨rfl, hb⟩
    cases hp : okPatch es with
    | false =>
      have HQ := Lib.hid hp
      clear hp
      go_wp2
      go_ret
      have hf : okSpan es closes start until_ = false := by unfold okSpan; rw [HQ.out]; simp
      exact ⟨by rw [hf]; rfl, hb⟩
    | true =>
      have HQ := Lib.hid hp
      clear hp
      go_wp2_with (fail)
      refine (in2_any closes 1 999 w1).mono ?_
      rintro e w2 ⟨rfl, k, rfl⟩
      cases hi : inB closes 1 999 with
      | false =>
        have HI := Lib.hid hi
        clear hi
        go_wp2
        go_ret
        have hf : okSpan es closes start until_ = false := by unfold okSpan; rw [HI.out]; simp
        exact ⟨by rw [hf]; rfl, below_drewN hb k⟩
      | true =>
        have HI := Lib.hid hi
        clear hi
        have hfin : okSpan es closes start until_ = (decide (closes ≤ start) && decide (start < until_) && decide (until_ ≤ 1000)) := by
          unfold okSpan
          rw [HQ.out, HI.out, HNE.out]
          rfl
        have HF := Lib.hid hfin
        clear hfin
        by_cases c1 : closes ≤ start
        · have d1 : decide (closes ≤ start) = true := by simp; omega
          by_cases c2 : start < until_
          · have d2 : decide (start < until_) = true := by simp; omega
            have K1 := Lib.hid c1
            have K2 := Lib.hid c2
            clear c1 c2
            go_wp2
            go_ret
            exact ⟨by rw [HF.out, d1, d2]; simp, below_drewN hb k⟩
          · have d2 : decide (start < until_) = false := by simp; omega
            have K2 := Lib.hid c2
            clear c1 c2
            go_wp2
            go_ret
            exact ⟨by rw [HF.out, d2]; simp, below_drewN hb k⟩
        · have d1 : decide (closes ≤ start) = false := by simp; omega
          have K1 := Lib.hid c1
          clear c1
          go_wp2
          go_ret
          exact ⟨by rw [HF.out, d1]; simp, below_drewN hb k⟩

end Go.Proofs.YthlfpiflegfoiaaGreatDoor
