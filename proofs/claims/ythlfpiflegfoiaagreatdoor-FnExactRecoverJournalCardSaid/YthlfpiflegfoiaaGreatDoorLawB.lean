/- Edits and patches: the program's tests, walked. -/
import Derived.Test.YthlfpiflegfoiaaGreatDoorLawA
namespace Go.Proofs.YthlfpiflegfoiaaGreatDoor
open Go.RowKit

theorem okEdit_add {e : Edit} (h : inB e.id 1 99 = true) (hk : e.kind = 1) : okEdit e = (decide (e.old.toList = []) && okSent e.new.toList) := by
  unfold okEdit
  rw [h]
  simp [hk]
theorem okEdit_drop {e : Edit} (h : inB e.id 1 99 = true) (hk : e.kind = 2) : okEdit e = (okSent e.old.toList && decide (e.new.toList = [])) := by
  unfold okEdit
  rw [h]
  simp [hk]
theorem okEdit_change {e : Edit} (h : inB e.id 1 99 = true) (hk : e.kind = 3) : okEdit e = (okSent e.old.toList && okSent e.new.toList && !(e.old.toList == e.new.toList)) := by
  unfold okEdit
  rw [h]
  simp [hk]
theorem okEdit_other {e : Edit} (h1 : e.kind ≠ 1) (h2 : e.kind ≠ 2) (h3 : e.kind ≠ 3) : okEdit e = false := by
  unfold okEdit
  simp [h1, h2, h3]
theorem okEdit_id {e : Edit} (h : inB e.id 1 99 = false) : okEdit e = false := by
  unfold okEdit
  rw [h]
  rfl

def SizeOk (e : Edit) : Prop := e.old.size ≤ maxLen ∧ e.new.size ≤ maxLen

set_option maxHeartbeats 2000000 in
theorem edit2_any (e : Edit) (w : World) (hs : SizeOk e) :
    Calls Tryz.prog 89 #[editV e] w (RetB (.bool (okEdit e)) w) := by
  obtain ⟨kind, id, old, new⟩ := e
  obtain ⟨hs1, hs2⟩ := hs
  have hs1 : old.size ≤ maxLen := hs1
  have hs2 : new.size ≤ maxLen := hs2
  have HS1 := Lib.hid hs1
  have HS2 := Lib.hid hs2
  clear hs1 hs2
  show Calls Tryz.prog 89 #[.agg #[.int .i64 kind, .int .i64 id, .string old, .string new]] w _
  have hb0 : ∀ k, Below w.heap.size w ((w.alloc (.cells #[.int .i64 kind, .int .i64 id, .string old, .string new] 66)).drewN k) := fun k => below_drewN ((Below.refl _ _).alloc (Nat.le_refl _) _) k
  by_cases hid : 1 ≤ id ∧ id ≤ 99
  · have hin : inB id 1 99 = true := inB_true hid.1 hid.2
    have HI := Lib.hid hin
    have b1 := hid.1
    have b2 := hid.2
    clear hin hid
    rcases (show kind = 1 ∨ kind = 2 ∨ kind = 3 ∨ (kind ≠ 1 ∧ kind ≠ 2 ∧ kind ≠ 3) by omega) with rfl | rfl | rfl | ⟨n1, n2, n3⟩
    · have HK := Lib.hid (okEdit_add (e := ⟨1, id, old, new⟩) HI.out rfl)
      by_cases ho : old.toList = []
      · go_enter Tryz.func89, Tryz.ntmps89
        go_wp2_with (fail)
        refine (in2_yes _ _ _ _ b1 b2).mono ?_
        rintro e w1 ⟨rfl, k, rfl⟩
        go_wp2_with (fail)
        refine (sent2_any new _ HS2.out).mono ?_
        rintro e w2 ⟨rfl, k2, rfl⟩
        go_wp2
        go_ret
        exact ⟨by rw [HK.out]; simp [ho], hb0 _⟩
      · go_enter Tryz.func89, Tryz.ntmps89
        go_wp2_with (fail)
        refine (in2_yes _ _ _ _ b1 b2).mono ?_
        rintro e w1 ⟨rfl, k, rfl⟩
        go_wp2
        go_ret
        exact ⟨by rw [HK.out]; simp [ho], hb0 _⟩
    · have HK := Lib.hid (okEdit_drop (e := ⟨2, id, old, new⟩) HI.out rfl)
      cases ho : okSent old.toList with
      | true =>
        have HO := Lib.hid ho
        clear ho
        by_cases hn : new.toList = []
        · go_enter Tryz.func89, Tryz.ntmps89
          go_wp2_with (fail)
          refine (in2_yes _ _ _ _ b1 b2).mono ?_
          rintro e w1 ⟨rfl, k, rfl⟩
          go_wp2_with (fail)
          refine (sent2_any old _ HS1.out).mono ?_
          rintro e w2 ⟨rfl, k2, rfl⟩
          rw [HO.out]
          go_wp2
          go_ret
          exact ⟨by rw [HK.out]; simp [HO.out, hn], hb0 _⟩
        · go_enter Tryz.func89, Tryz.ntmps89
          go_wp2_with (fail)
          refine (in2_yes _ _ _ _ b1 b2).mono ?_
          rintro e w1 ⟨rfl, k, rfl⟩
          go_wp2_with (fail)
          refine (sent2_any old _ HS1.out).mono ?_
          rintro e w2 ⟨rfl, k2, rfl⟩
          rw [HO.out]
          go_wp2
          go_ret
          exact ⟨by rw [HK.out]; simp [HO.out, hn], hb0 _⟩
      | false =>
        have HO := Lib.hid ho
        clear ho
        go_enter Tryz.func89, Tryz.ntmps89
        go_wp2_with (fail)
        refine (in2_yes _ _ _ _ b1 b2).mono ?_
        rintro e w1 ⟨rfl, k, rfl⟩
        go_wp2_with (fail)
        refine (sent2_any old _ HS1.out).mono ?_
        rintro e w2 ⟨rfl, k2, rfl⟩
        rw [HO.out]
        go_wp2
        go_ret
        exact ⟨by rw [HK.out]; simp [HO.out], hb0 _⟩
    · have HK := Lib.hid (okEdit_change (e := ⟨3, id, old, new⟩) HI.out rfl)
      cases ho : okSent old.toList with
      | true =>
        have HO := Lib.hid ho
        clear ho
        cases hn : okSent new.toList with
        | true =>
          have HN := Lib.hid hn
          clear hn
          cases he : (old.toList == new.toList) with
          | true =>
            go_enter Tryz.func89, Tryz.ntmps89
            go_wp2_with (fail)
            refine (in2_yes _ _ _ _ b1 b2).mono ?_
            rintro e w1 ⟨rfl, k, rfl⟩
            go_wp2_with (fail)
            refine (sent2_any old _ HS1.out).mono ?_
            rintro e w2 ⟨rfl, k2, rfl⟩
            rw [HO.out]
            go_wp2_with (fail)
            refine (sent2_any new _ HS2.out).mono ?_
            rintro e w2 ⟨rfl, k3, rfl⟩
            rw [HN.out]
            go_wp2
            go_ret
            exact ⟨by rw [HK.out]; simp [HO.out, HN.out, he], hb0 _⟩
          | false =>
            go_enter Tryz.func89, Tryz.ntmps89
            go_wp2_with (fail)
            refine (in2_yes _ _ _ _ b1 b2).mono ?_
            rintro e w1 ⟨rfl, k, rfl⟩
            go_wp2_with (fail)
            refine (sent2_any old _ HS1.out).mono ?_
            rintro e w2 ⟨rfl, k2, rfl⟩
            rw [HO.out]
            go_wp2_with (fail)
            refine (sent2_any new _ HS2.out).mono ?_
            rintro e w2 ⟨rfl, k3, rfl⟩
            rw [HN.out]
            go_wp2
            go_ret
            exact ⟨by rw [HK.out]; simp [HO.out, HN.out, he], hb0 _⟩
        | false =>
          have HN := Lib.hid hn
          clear hn
          go_enter Tryz.func89, Tryz.ntmps89
          go_wp2_with (fail)
          refine (in2_yes _ _ _ _ b1 b2).mono ?_
          rintro e w1 ⟨rfl, k, rfl⟩
          go_wp2_with (fail)
          refine (sent2_any old _ HS1.out).mono ?_
          rintro e w2 ⟨rfl, k2, rfl⟩
          rw [HO.out]
          go_wp2_with (fail)
          refine (sent2_any new _ HS2.out).mono ?_
          rintro e w2 ⟨rfl, k3, rfl⟩
          rw [HN.out]
          go_wp2
          go_ret
          exact ⟨by rw [HK.out]; simp [HO.out, HN.out], hb0 _⟩
      | false =>
        have HO := Lib.hid ho
        clear ho
        go_enter Tryz.func89, Tryz.ntmps89
        go_wp2_with (fail)
        refine (in2_yes _ _ _ _ b1 b2).mono ?_
        rintro e w1 ⟨rfl, k, rfl⟩
        go_wp2_with (fail)
        refine (sent2_any old _ HS1.out).mono ?_
        rintro e w2 ⟨rfl, k2, rfl⟩
        rw [HO.out]
        go_wp2
        go_ret
        exact ⟨by rw [HK.out]; simp [HO.out], hb0 _⟩
    · have HK := Lib.hid (okEdit_other (e := ⟨kind, id, old, new⟩) n1 n2 n3)
      have m1 : (kind == 1) = false := by simp; omega
      have m2 : (kind == 2) = false := by simp; omega
      have m3 : (kind == 3) = false := by simp; omega
      clear n1 n2 n3
      go_enter Tryz.func89, Tryz.ntmps89
      go_wp2_with (fail)
      refine (in2_yes _ _ _ _ b1 b2).mono ?_
      rintro e w1 ⟨rfl, k, rfl⟩
      go_wp2
      go_ret
      exact ⟨by rw [HK.out]; rfl, hb0 _⟩
  · have h' : id < 1 ∨ 99 < id := by omega
    have HK := Lib.hid (okEdit_id (e := ⟨kind, id, old, new⟩) (inB_false h'))
    have HN := Lib.hid h'
    clear h' hid
    go_enter Tryz.func89, Tryz.ntmps89
    go_wp2_with (fail)
    refine (in2_no _ _ _ _ HN.out).mono ?_
    rintro e w1 ⟨rfl, k, rfl⟩
    go_wp2
    go_ret
    exact ⟨by rw [HK.out]; rfl, hb0 _⟩

end Go.Proofs.YthlfpiflegfoiaaGreatDoor
