/- Patches, walked: the reference's. -/
import Derived.Test.YthlfpiflegfoiaaGreatDoorLawL
import Derived.Test.YthlfpiflegfoiaaGreatDoorAft
namespace Go.Proofs.YthlfpiflegfoiaaGreatDoor
open Go.RowKit

theorem in1_val (n a b : Int) (w : World) (r : Bool) (h : inB n a b = r) : Calls Tryz.prog 75 #[.int .i64 n, .int .i64 a, .int .i64 b] w (RetQ (.bool r) w) := h ▸ in1_any n a b w
theorem edit1_val (e : Edit) (b o : Nat) (w : World) (r : Bool) (hs : SizeOk e) (c0 : w.cell? ⟨b, o, none⟩ = some (.int .i64 e.kind)) (c2 : w.cell? ⟨b, o + 2, none⟩ = some (.string e.old)) (c3 : w.cell? ⟨b, o + 3, none⟩ = some (.string e.new)) (h : okBody e = r) :
    Calls Tryz.prog 97 #[.pointer (some ⟨b, o, none⟩)] w (RetB (.bool r) w) := h ▸ edit1_any e b o w hs c0 c2 c3

set_option maxHeartbeats 4000000 in
theorem patch1_any (es : List Edit) (w : World) (v : Value) (h : Edits w w.heap.size v es) (hs : SizesOk es) :
    Calls Tryz.prog 78 #[v] w (RetB (.bool (okPatch es)) w) := by
  obtain ⟨A, c, rfl, hc, hm, hel⟩ := h
  unfold maxLen at hm
  have hlm : es.length ≤ 9223372036854775807 := by omega
  have HEL := Lib.hid hel
  have HS := Lib.hid hs
  clear hel hs
  refine calls_aft fun x0 => ?_
  go_enter Tryz.func78, Tryz.ntmps78
  go_wp2
  go_loopw [3] (fun i wr => ∃ (k : Nat) (x : Aft w), k ≤ es.length ∧ i = .int .i64 (k : Int) ∧ allLt k (patchAt es) = true ∧ wr = x.val) (fun i _ => es.length - (intOf i).toNat)
  case atStart => exact ⟨0, x0, Nat.zero_le _, rfl, rfl, rfl⟩
  case round =>
    obtain ⟨k, x, hk, rfl, hall, rfl⟩ := hrel
    have HA := Lib.hid hall
    clear hall
    by_cases hlt : k < es.length
    · obtain ⟨b, off, rfl, hblt, hcell⟩ := HEL.out (by omega)
      have hget : es[k]? = some es[k] := List.getElem?_eq_getElem hlt
      obtain ⟨c0, c1, c2, c3⟩ := edits_at hcell hget
      have z0 := fun y : Aft w => y.cell c0
      have z1 := fun y : Aft w => y.cell c1
      have z2 := fun y : Aft w => y.cell c2
      have z3 := fun y : Aft w => y.cell c3
      have HG := Lib.hid hget
      have HC := Lib.hid hcell
      have hso := HS.out es[k] (List.getElem_mem hlt)
      clear hget hcell c0 c1 c2 c3
      generalize es[k] = e at *
      cases h1 : inB e.id 1 99 with
      | false =>
        have H1 := Lib.hid h1
        have HB := Lib.hid (okPatch_bad hlt (patchAt_bad HG.out (by rw [okEdit_body, h1]; rfl)))
        clear h1
        go_wp2_with (fail)
        refine wp_region_at (by kernel_rfl) (by kernel_rfl) ?_
        repeat (go_big_quiet_step ((first | (go_at_call 75; exact aft_q (in1_val _ _ _ _ _ H1.out)))))
        refine wpQuiet_nil ?_
        rintro _ ⟨y, rfl⟩
        go_wp2
        go_ret
        exact ⟨by rw [HB.out]; rfl, y.ok⟩
      | true =>
        have H1 := Lib.hid h1
        clear h1
        cases h2 : okBody e with
        | false =>
          have H2 := Lib.hid h2
          have HB := Lib.hid (okPatch_bad hlt (patchAt_bad HG.out (by rw [okEdit_body, h2]; simp)))
          clear h2
          go_wp2_with (fail)
          refine wp_region_at (by kernel_rfl) (by kernel_rfl) ?_
          repeat (go_big_quiet_step ((first | (go_at_call 75; exact aft_q (in1_val _ _ _ _ _ H1.out)) | (go_at_call 97; exact aft_b (edit1_val e _ _ _ _ hso (z0 _) (z2 _) (z3 _) H2.out)))))
          refine wpQuiet_nil ?_
          rintro _ ⟨y, rfl⟩
          go_wp2
          go_ret
          exact ⟨by rw [HB.out]; rfl, y.ok⟩
        | true =>
          have H2 := Lib.hid h2
          have HO : Hid (okEdit e = true) := Lib.hid (by rw [okEdit_body, H1.out, h2]; rfl)
          clear h2
          have HSU := allLt_succ k (patchAt es)
          rw [HA.out, Bool.true_and] at HSU
          have HSU := Lib.hid HSU
          by_cases hk0 : k = 0
          · have HN : Hid (allLt (k + 1) (patchAt es) = true) := HSU.out.trans (patchAt_zero hk0 HG.out HO.out)
            have hk1 : decide ((0 : Int) < (k : Int)) = false := by simp; omega
            have hk2 : decide (0 < k) = false := by simp; omega
            clear hk0
            go_wp2_with (fail)
            refine wp_region_at (by kernel_rfl) (by kernel_rfl) ?_
            repeat (go_big_quiet_step ((first | (go_at_call 75; exact aft_q (in1_val _ _ _ _ _ H1.out)) | (go_at_call 97; exact aft_b (edit1_val e _ _ _ _ hso (z0 _) (z2 _) (z3 _) H2.out)))))
            refine wpQuiet_nil ?_
            rintro _ ⟨y, rfl⟩
            go_wp2
            go_roundw
            case rel => exact ⟨k + 1, y, by omega, by go_num, HN.out, rfl⟩
            case measure => simp [intOf]; omega
          · obtain ⟨m, rfl⟩ : ∃ m, k = m + 1 := ⟨k - 1, by omega⟩
            have hd : es[m]? = some (es[m]'(by omega)) := List.getElem?_eq_getElem (by omega)
            obtain ⟨_, d1, _, _⟩ := edits_at HC.out hd
            generalize (es[m]'(by omega)) = d at *
            have HP := Lib.hid (patchAt_succ hd HG.out HO.out)
            have z4 := fun y : Aft w => y.cell d1
            clear hd hk0 d1
            by_cases hid : d.id < e.id
            · have HN : Hid (allLt (m + 1 + 1) (patchAt es) = true) := HSU.out.trans (HP.out.trans (decide_eq_true hid))
              have hid2 : ¬ (e.id ≤ d.id) := by omega
              go_wp2_with (fail)
              refine wp_region_at (by kernel_rfl) (by kernel_rfl) ?_
              repeat (go_big_quiet_step ((first | (go_at_call 75; exact aft_q (in1_val _ _ _ _ _ H1.out)) | (go_at_call 97; exact aft_b (edit1_val e _ _ _ _ hso (z0 _) (z2 _) (z3 _) H2.out)))))
              refine wpQuiet_nil ?_
              rintro _ ⟨y, rfl⟩
              go_wp2
              go_roundw
              case rel => exact ⟨(m + 1) + 1, y, by omega, by go_num, HN.out, rfl⟩
              case measure => simp [intOf]; omega
            · have HB := Lib.hid (okPatch_bad hlt (HP.out.trans (decide_eq_false hid)))
              have hid2 : e.id ≤ d.id := by omega
              go_wp2_with (fail)
              refine wp_region_at (by kernel_rfl) (by kernel_rfl) ?_
              repeat (go_big_quiet_step ((first | (go_at_call 75; exact aft_q (in1_val _ _ _ _ _ H1.out)) | (go_at_call 97; exact aft_b (edit1_val e _ _ _ _ hso (z0 _) (z2 _) (z3 _) H2.out)))))
              refine wpQuiet_nil ?_
              rintro _ ⟨y, rfl⟩
              go_wp2
              go_ret
              exact ⟨by rw [HB.out]; rfl, y.ok⟩
    · have hk' : k = es.length := by omega
      have hP : okPatch es = decide (es.length ≤ 16) := by
        rw [okPatch_eq, ← hk', HA.out, Bool.true_and]
      have HP := Lib.hid hP
      have hge : ¬ (k : Int) < (es.length : Int) := by omega
      clear hP hk' hlt
      by_cases h16 : es.length ≤ 16
      all_goals
        have H16 := Lib.hid h16
        have e16 : decide ((es.length : Int) ≤ 16) = decide (es.length ≤ 16) := decide_eq_decide.2 (by omega)
        first | rw [decide_eq_true H16.out] at e16 | rw [decide_eq_false H16.out] at e16
        clear h16
        go_wp2
        go_ret
        exact ⟨by rw [HP.out]; simp [H16.out], x.ok⟩
end Go.Proofs.YthlfpiflegfoiaaGreatDoor
