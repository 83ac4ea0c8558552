/- Edits, walked: the reference's. -/
import Derived.Test.YthlfpiflegfoiaaGreatDoorLawK
namespace Go.Proofs.YthlfpiflegfoiaaGreatDoor
open Go.RowKit

def okBody (e : Edit) : Bool :=
  (decide (e.kind = 1) && decide (e.old.toList = []) && okSent e.new.toList) || (decide (e.kind = 2) && okSent e.old.toList && decide (e.new.toList = [])) ||
    (decide (e.kind = 3) && okSent e.old.toList && okSent e.new.toList && !(e.old.toList == e.new.toList))
theorem okEdit_body (e : Edit) : okEdit e = (inB e.id 1 99 && okBody e) := rfl

theorem sent1_val (s : ByteArray) (w : World) (r : Bool) (hs : s.size ≤ maxLen) (h : okSent s.toList = r) :
    Calls Tryz.prog 117 #[.string s] w (RetQ (.bool r) w) := h ▸ sent1_any s w hs

set_option maxRecDepth 100000 in
set_option maxHeartbeats 2000000 in
theorem edit1_any (e : Edit) (b o : Nat) (w : World) (hs : SizeOk e) (c0 : w.cell? ⟨b, o, none⟩ = some (.int .i64 e.kind)) (c2 : w.cell? ⟨b, o + 2, none⟩ = some (.string e.old)) (c3 : w.cell? ⟨b, o + 3, none⟩ = some (.string e.new)) :
    Calls Tryz.prog 97 #[.pointer (some ⟨b, o, none⟩)] w (RetB (.bool (okBody e)) w) := by
  obtain ⟨kind, id, old, new⟩ := e
  have c0 : w.cell? ⟨b, o, none⟩ = some (.int .i64 kind) := c0
  have c2 : w.cell? ⟨b, o + 2, none⟩ = some (.string old) := c2
  have c3 : w.cell? ⟨b, o + 3, none⟩ = some (.string new) := c3
  have HS1 : Hid (old.size ≤ maxLen) := Lib.hid hs.1
  have HS2 : Hid (new.size ≤ maxLen) := Lib.hid hs.2
  clear hs
  rcases (show kind = 1 ∨ kind = 2 ∨ kind = 3 ∨ (kind ≠ 1 ∧ kind ≠ 2 ∧ kind ≠ 3) by omega) with rfl | rfl | rfl | ⟨n1, n2, n3⟩
  · have HK : Hid (okBody ⟨1, id, old, new⟩ = (decide (old.toList = []) && okSent new.toList)) := Lib.hid (by simp [okBody])
    by_cases ho : old.toList = []
    · go_enter Tryz.func97, Tryz.ntmps97
      go_wp2_with (fail)
      refine (sent1_any new _ HS2.out).mono ?_
      rintro e w2 ⟨rfl, k2, rfl⟩
      go_wp2
      go_ret
      exact ⟨by rw [HK.out]; simp [ho], below_drewN (Below.refl _ _) _⟩
    · go_enter Tryz.func97, Tryz.ntmps97
      go_wp2
      go_ret
      exact ⟨by rw [HK.out]; simp [ho], Below.refl _ _⟩
  · have HK : Hid (okBody ⟨2, id, old, new⟩ = (okSent old.toList && decide (new.toList = []))) := Lib.hid (by simp [okBody])
    cases ho : okSent old.toList with
    | true =>
      have HO := Lib.hid ho
      clear ho
      by_cases hn : new.toList = []
      all_goals
        go_enter Tryz.func97, Tryz.ntmps97
        go_wp2_with (fail)
        refine (sent1_any old _ HS1.out).mono ?_
        rintro e w2 ⟨rfl, k2, rfl⟩
        rw [HO.out]
        go_wp2
        go_ret
        exact ⟨by rw [HK.out]; simp [HO.out, hn], below_drewN (Below.refl _ _) _⟩
    | false =>
      have HO := Lib.hid ho
      clear ho
      go_enter Tryz.func97, Tryz.ntmps97
      go_wp2_with (fail)
      refine (sent1_any old _ HS1.out).mono ?_
      rintro e w2 ⟨rfl, k2, rfl⟩
      rw [HO.out]
      go_wp2
      go_ret
      exact ⟨by rw [HK.out]; simp [HO.out], below_drewN (Below.refl _ _) _⟩
  · have HK : Hid (okBody ⟨3, id, old, new⟩ = (okSent old.toList && okSent new.toList && !(old.toList == new.toList))) := Lib.hid (by simp [okBody])
    have z2 := fun x : Aft w => x.cell c2
    have z3 := fun x : Aft w => x.cell c3
    have hs1 := HS1.out
    have hs2 := HS2.out
    cases ho : okSent old.toList with
    | true =>
      cases hn : okSent new.toList with
      | true =>
        cases he : (old.toList == new.toList) with
        | true =>
          go_enter Tryz.func97, Tryz.ntmps97
          go_wp2
          refine wp_region_aft (by kernel_rfl) (by kernel_rfl) ?_
          repeat (go_big_quiet_step ((go_at_call 117; exact aft_q (sent1_val _ _ _ (by assumption) (by assumption)))))
          refine wpQuiet_nil ?_
          rintro _ ⟨y, rfl⟩
          go_wp2
          go_ret
          exact ⟨by rw [HK.out]; simp [ho, hn, he], y.ok⟩
        | false =>
          go_enter Tryz.func97, Tryz.ntmps97
          go_wp2
          refine wp_region_aft (by kernel_rfl) (by kernel_rfl) ?_
          repeat (go_big_quiet_step ((go_at_call 117; exact aft_q (sent1_val _ _ _ (by assumption) (by assumption)))))
          refine wpQuiet_nil ?_
          rintro _ ⟨y, rfl⟩
          go_wp2
          go_ret
          exact ⟨by rw [HK.out]; simp [ho, hn, he], y.ok⟩
      | false =>
        go_enter Tryz.func97, Tryz.ntmps97
        go_wp2
        refine wp_region_aft (by kernel_rfl) (by kernel_rfl) ?_
        repeat (go_big_quiet_step ((go_at_call 117; exact aft_q (sent1_val _ _ _ (by assumption) (by assumption)))))
        refine wpQuiet_nil ?_
        rintro _ ⟨y, rfl⟩
        go_wp2
        go_ret
        exact ⟨by rw [HK.out]; simp [ho, hn], y.ok⟩
    | false =>
      go_enter Tryz.func97, Tryz.ntmps97
      go_wp2
      refine wp_region_aft (by kernel_rfl) (by kernel_rfl) ?_
      repeat (go_big_quiet_step ((go_at_call 117; exact aft_q (sent1_val _ _ _ (by assumption) (by assumption)))))
      refine wpQuiet_nil ?_
      rintro _ ⟨y, rfl⟩
      go_wp2
      go_ret
      exact ⟨by rw [HK.out]; simp [ho], y.ok⟩
  · have HK : Hid (okBody ⟨kind, id, old, new⟩ = false) := Lib.hid (by simp [okBody, n1, n2, n3])
    have m1 : (kind == 1) = false := by simp; omega
    have m2 : (kind == 2) = false := by simp; omega
    have m3 : (kind == 3) = false := by simp; omega
    clear n1 n2 n3
    go_enter Tryz.func97, Tryz.ntmps97
    go_wp2
    go_ret
    exact ⟨by rw [HK.out]; rfl, Below.refl _ _⟩
end Go.Proofs.YthlfpiflegfoiaaGreatDoor
