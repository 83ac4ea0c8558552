/- Deeds, walked: the reference's test, kind by kind. -/
import Derived.Test.YthlfpiflegfoiaaGreatDoorLawN
namespace Go.Proofs.YthlfpiflegfoiaaGreatDoor
open Go.RowKit

set_option maxRecDepth 100000 in
set_option maxHeartbeats 8000000 in
theorem deed1_k1 (d : Deed) (b o : Nat) (A1 : Option Addr) (c1 : Nat) (A2 : Option Addr) (c2 : Nat) (w : World) (h : DeedP w b o d A1 c1 A2 c2) (hk : d.kind = 1) :
    Calls Tryz.prog 54 #[.pointer (some ⟨b, o, none⟩)] w (RetB (.bool (okDeed d)) w) := by
  have z0 := fun y : Aft w => y.cell h.k0
  have z1 := fun y : Aft w => y.cell h.k1
  have z2 := fun y : Aft w => y.cell h.k2
  have z3 := fun y : Aft w => y.cell h.k3
  have z4 := fun y : Aft w => y.cell h.k4
  have z5 := fun y : Aft w => y.cell h.k5
  have z6 := fun y : Aft w => y.cell h.k6
  have z7 := fun y : Aft w => y.cell h.k7
  have z8 := fun y : Aft w => y.cell h.k8
  have HT := Lib.hid (fun y : Aft w => (h.aft y).ints)
  have HE := Lib.hid (fun y : Aft w => (h.aft y).edits)
  have HP := Lib.hid (fun y : Aft w => h.aft y)
  have HSZ := Lib.hid h.sizes
  have HTI := Lib.hid h.title
  have OK := Lib.hid (okDeed_1s hk)
  have b1 : (d.kind == 1) = true := by simp [hk]
  clear h hk
  cases h0 : inB d.member 0 11 with
  | false =>
    refine calls_aft fun x0 => ?_
    go_enter Tryz.func54, Tryz.ntmps54
    go_wp2_with (first | (go_at_call 75; refine (aft_q (in1_val _ _ _ _ _ (by assumption))).mono ?_; rintro e _ ⟨rfl, y, rfl⟩) | (go_at_call 79; refine (aft_b (trust1_val _ _ _ _ _ _ (HT.out _) (by omega) (by omega) (by assumption))).mono ?_; rintro e _ ⟨rfl, y, rfl⟩) | (go_at_call 80; refine (aft_b (plain1_val d _ _ _ _ _ _ _ _ (HP.out _) (by assumption))).mono ?_; rintro e _ ⟨rfl, y, rfl⟩) | (go_at_call 81; refine (aft_q (name1_val _ _ _ HTI.out (by assumption))).mono ?_; rintro e _ ⟨rfl, y, rfl⟩) | (go_at_call 78; refine (aft_b (patch1_val _ _ _ _ (HE.out _) HSZ.out (by assumption))).mono ?_; rintro e _ ⟨rfl, y, rfl⟩) | (go_at_call 82; refine (aft_b (span1_val _ _ _ _ _ (by assumption))).mono ?_; rintro e _ ⟨rfl, y, rfl⟩))
    refine wp_region_at (by kernel_rfl) (by kernel_rfl) ?_
    repeat (go_big_quiet_step ((first | (go_at_call 75; exact aft_q (in1_val _ _ _ _ _ (by assumption))) | (go_at_call 79; exact aft_b (trust1_val _ _ _ _ _ _ (HT.out _) (by omega) (by omega) (by assumption))) | (go_at_call 80; exact aft_b (plain1_val d _ _ _ _ _ _ _ _ (HP.out _) (by assumption))) | (go_at_call 81; exact aft_q (name1_val _ _ _ HTI.out (by assumption))) | (go_at_call 78; exact aft_b (patch1_val _ _ _ _ (HE.out _) HSZ.out (by assumption))) | (go_at_call 82; exact aft_b (span1_val _ _ _ _ _ (by assumption))))))
    refine wpQuiet_nil ?_
    rintro _ ⟨y, rfl⟩
    go_wp2
    go_ret
    exact ⟨by rw [OK.out, h0]; rfl, y.ok⟩
  | true =>
    cases h1 : okTrust d.trust d.member 12 with
    | false =>
      refine calls_aft fun x0 => ?_
      go_enter Tryz.func54, Tryz.ntmps54
      go_wp2_with (first | (go_at_call 75; refine (aft_q (in1_val _ _ _ _ _ (by assumption))).mono ?_; rintro e _ ⟨rfl, y, rfl⟩) | (go_at_call 79; refine (aft_b (trust1_val _ _ _ _ _ _ (HT.out _) (by omega) (by omega) (by assumption))).mono ?_; rintro e _ ⟨rfl, y, rfl⟩) | (go_at_call 80; refine (aft_b (plain1_val d _ _ _ _ _ _ _ _ (HP.out _) (by assumption))).mono ?_; rintro e _ ⟨rfl, y, rfl⟩) | (go_at_call 81; refine (aft_q (name1_val _ _ _ HTI.out (by assumption))).mono ?_; rintro e _ ⟨rfl, y, rfl⟩) | (go_at_call 78; refine (aft_b (patch1_val _ _ _ _ (HE.out _) HSZ.out (by assumption))).mono ?_; rintro e _ ⟨rfl, y, rfl⟩) | (go_at_call 82; refine (aft_b (span1_val _ _ _ _ _ (by assumption))).mono ?_; rintro e _ ⟨rfl, y, rfl⟩))
      refine wp_region_at (by kernel_rfl) (by kernel_rfl) ?_
      repeat (go_big_quiet_step ((first | (go_at_call 75; exact aft_q (in1_val _ _ _ _ _ (by assumption))) | (go_at_call 79; exact aft_b (trust1_val _ _ _ _ _ _ (HT.out _) (by omega) (by omega) (by assumption))) | (go_at_call 80; exact aft_b (plain1_val d _ _ _ _ _ _ _ _ (HP.out _) (by assumption))) | (go_at_call 81; exact aft_q (name1_val _ _ _ HTI.out (by assumption))) | (go_at_call 78; exact aft_b (patch1_val _ _ _ _ (HE.out _) HSZ.out (by assumption))) | (go_at_call 82; exact aft_b (span1_val _ _ _ _ _ (by assumption))))))
      refine wpQuiet_nil ?_
      rintro _ ⟨y, rfl⟩
      go_wp2
      go_ret
      exact ⟨by rw [OK.out, h0, h1]; rfl, y.ok⟩
    | true =>
      cases h2 : d.title.toList.isEmpty with
      | false =>
        refine calls_aft fun x0 => ?_
        go_enter Tryz.func54, Tryz.ntmps54
        go_wp2_with (first | (go_at_call 75; refine (aft_q (in1_val _ _ _ _ _ (by assumption))).mono ?_; rintro e _ ⟨rfl, y, rfl⟩) | (go_at_call 79; refine (aft_b (trust1_val _ _ _ _ _ _ (HT.out _) (by omega) (by omega) (by assumption))).mono ?_; rintro e _ ⟨rfl, y, rfl⟩) | (go_at_call 80; refine (aft_b (plain1_val d _ _ _ _ _ _ _ _ (HP.out _) (by assumption))).mono ?_; rintro e _ ⟨rfl, y, rfl⟩) | (go_at_call 81; refine (aft_q (name1_val _ _ _ HTI.out (by assumption))).mono ?_; rintro e _ ⟨rfl, y, rfl⟩) | (go_at_call 78; refine (aft_b (patch1_val _ _ _ _ (HE.out _) HSZ.out (by assumption))).mono ?_; rintro e _ ⟨rfl, y, rfl⟩) | (go_at_call 82; refine (aft_b (span1_val _ _ _ _ _ (by assumption))).mono ?_; rintro e _ ⟨rfl, y, rfl⟩))
        refine wp_region_at (by kernel_rfl) (by kernel_rfl) ?_
        repeat (go_big_quiet_step ((first | (go_at_call 75; exact aft_q (in1_val _ _ _ _ _ (by assumption))) | (go_at_call 79; exact aft_b (trust1_val _ _ _ _ _ _ (HT.out _) (by omega) (by omega) (by assumption))) | (go_at_call 80; exact aft_b (plain1_val d _ _ _ _ _ _ _ _ (HP.out _) (by assumption))) | (go_at_call 81; exact aft_q (name1_val _ _ _ HTI.out (by assumption))) | (go_at_call 78; exact aft_b (patch1_val _ _ _ _ (HE.out _) HSZ.out (by assumption))) | (go_at_call 82; exact aft_b (span1_val _ _ _ _ _ (by assumption))))))
        refine wpQuiet_nil ?_
        rintro _ ⟨y, rfl⟩
        go_wp2
        go_ret
        exact ⟨by rw [OK.out, h0, h1, h2]; rfl, y.ok⟩
      | true =>
        cases h3 : (d.vote == 0) with
        | false =>
          refine calls_aft fun x0 => ?_
          go_enter Tryz.func54, Tryz.ntmps54
          go_wp2_with (first | (go_at_call 75; refine (aft_q (in1_val _ _ _ _ _ (by assumption))).mono ?_; rintro e _ ⟨rfl, y, rfl⟩) | (go_at_call 79; refine (aft_b (trust1_val _ _ _ _ _ _ (HT.out _) (by omega) (by omega) (by assumption))).mono ?_; rintro e _ ⟨rfl, y, rfl⟩) | (go_at_call 80; refine (aft_b (plain1_val d _ _ _ _ _ _ _ _ (HP.out _) (by assumption))).mono ?_; rintro e _ ⟨rfl, y, rfl⟩) | (go_at_call 81; refine (aft_q (name1_val _ _ _ HTI.out (by assumption))).mono ?_; rintro e _ ⟨rfl, y, rfl⟩) | (go_at_call 78; refine (aft_b (patch1_val _ _ _ _ (HE.out _) HSZ.out (by assumption))).mono ?_; rintro e _ ⟨rfl, y, rfl⟩) | (go_at_call 82; refine (aft_b (span1_val _ _ _ _ _ (by assumption))).mono ?_; rintro e _ ⟨rfl, y, rfl⟩))
          refine wp_region_at (by kernel_rfl) (by kernel_rfl) ?_
          repeat (go_big_quiet_step ((first | (go_at_call 75; exact aft_q (in1_val _ _ _ _ _ (by assumption))) | (go_at_call 79; exact aft_b (trust1_val _ _ _ _ _ _ (HT.out _) (by omega) (by omega) (by assumption))) | (go_at_call 80; exact aft_b (plain1_val d _ _ _ _ _ _ _ _ (HP.out _) (by assumption))) | (go_at_call 81; exact aft_q (name1_val _ _ _ HTI.out (by assumption))) | (go_at_call 78; exact aft_b (patch1_val _ _ _ _ (HE.out _) HSZ.out (by assumption))) | (go_at_call 82; exact aft_b (span1_val _ _ _ _ _ (by assumption))))))
          refine wpQuiet_nil ?_
          rintro _ ⟨y, rfl⟩
          go_wp2
          go_ret
          exact ⟨by rw [OK.out, h0, h1, h2, h3]; rfl, y.ok⟩
        | true =>
          cases h4 : plainB d with
          | false =>
            refine calls_aft fun x0 => ?_
            go_enter Tryz.func54, Tryz.ntmps54
            go_wp2_with (first | (go_at_call 75; refine (aft_q (in1_val _ _ _ _ _ (by assumption))).mono ?_; rintro e _ ⟨rfl, y, rfl⟩) | (go_at_call 79; refine (aft_b (trust1_val _ _ _ _ _ _ (HT.out _) (by omega) (by omega) (by assumption))).mono ?_; rintro e _ ⟨rfl, y, rfl⟩) | (go_at_call 80; refine (aft_b (plain1_val d _ _ _ _ _ _ _ _ (HP.out _) (by assumption))).mono ?_; rintro e _ ⟨rfl, y, rfl⟩) | (go_at_call 81; refine (aft_q (name1_val _ _ _ HTI.out (by assumption))).mono ?_; rintro e _ ⟨rfl, y, rfl⟩) | (go_at_call 78; refine (aft_b (patch1_val _ _ _ _ (HE.out _) HSZ.out (by assumption))).mono ?_; rintro e _ ⟨rfl, y, rfl⟩) | (go_at_call 82; refine (aft_b (span1_val _ _ _ _ _ (by assumption))).mono ?_; rintro e _ ⟨rfl, y, rfl⟩))
            refine wp_region_at (by kernel_rfl) (by kernel_rfl) ?_
            repeat (go_big_quiet_step ((first | (go_at_call 75; exact aft_q (in1_val _ _ _ _ _ (by assumption))) | (go_at_call 79; exact aft_b (trust1_val _ _ _ _ _ _ (HT.out _) (by omega) (by omega) (by assumption))) | (go_at_call 80; exact aft_b (plain1_val d _ _ _ _ _ _ _ _ (HP.out _) (by assumption))) | (go_at_call 81; exact aft_q (name1_val _ _ _ HTI.out (by assumption))) | (go_at_call 78; exact aft_b (patch1_val _ _ _ _ (HE.out _) HSZ.out (by assumption))) | (go_at_call 82; exact aft_b (span1_val _ _ _ _ _ (by assumption))))))
            refine wpQuiet_nil ?_
            rintro _ ⟨y, rfl⟩
            go_wp2
            go_ret
            exact ⟨by rw [OK.out, h0, h1, h2, h3, h4]; rfl, y.ok⟩
          | true =>
            refine calls_aft fun x0 => ?_
            go_enter Tryz.func54, Tryz.ntmps54
            go_wp2_with (first | (go_at_call 75; refine (aft_q (in1_val _ _ _ _ _ (by assumption))).mono ?_; rintro e _ ⟨rfl, y, rfl⟩) | (go_at_call 79; refine (aft_b (trust1_val _ _ _ _ _ _ (HT.out _) (by omega) (by omega) (by assumption))).mono ?_; rintro e _ ⟨rfl, y, rfl⟩) | (go_at_call 80; refine (aft_b (plain1_val d _ _ _ _ _ _ _ _ (HP.out _) (by assumption))).mono ?_; rintro e _ ⟨rfl, y, rfl⟩) | (go_at_call 81; refine (aft_q (name1_val _ _ _ HTI.out (by assumption))).mono ?_; rintro e _ ⟨rfl, y, rfl⟩) | (go_at_call 78; refine (aft_b (patch1_val _ _ _ _ (HE.out _) HSZ.out (by assumption))).mono ?_; rintro e _ ⟨rfl, y, rfl⟩) | (go_at_call 82; refine (aft_b (span1_val _ _ _ _ _ (by assumption))).mono ?_; rintro e _ ⟨rfl, y, rfl⟩))
            refine wp_region_at (by kernel_rfl) (by kernel_rfl) ?_
            repeat (go_big_quiet_step ((first | (go_at_call 75; exact aft_q (in1_val _ _ _ _ _ (by assumption))) | (go_at_call 79; exact aft_b (trust1_val _ _ _ _ _ _ (HT.out _) (by omega) (by omega) (by assumption))) | (go_at_call 80; exact aft_b (plain1_val d _ _ _ _ _ _ _ _ (HP.out _) (by assumption))) | (go_at_call 81; exact aft_q (name1_val _ _ _ HTI.out (by assumption))) | (go_at_call 78; exact aft_b (patch1_val _ _ _ _ (HE.out _) HSZ.out (by assumption))) | (go_at_call 82; exact aft_b (span1_val _ _ _ _ _ (by assumption))))))
            refine wpQuiet_nil ?_
            rintro _ ⟨y, rfl⟩
            go_wp2
            go_ret
            exact ⟨by rw [OK.out, h0, h1, h2, h3, h4]; rfl, y.ok⟩
set_option maxRecDepth 100000 in
set_option maxHeartbeats 8000000 in
theorem deed1_k2 (d : Deed) (b o : Nat) (A1 : Option Addr) (c1 : Nat) (A2 : Option Addr) (c2 : Nat) (w : World) (h : DeedP w b o d A1 c1 A2 c2) (hk : d.kind = 2) :
    Calls Tryz.prog 54 #[.pointer (some ⟨b, o, none⟩)] w (RetB (.bool (okDeed d)) w) := by
  have z0 := fun y : Aft w => y.cell h.k0
  have z1 := fun y : Aft w => y.cell h.k1
  have z2 := fun y : Aft w => y.cell h.k2
  have z3 := fun y : Aft w => y.cell h.k3
  have z4 := fun y : Aft w => y.cell h.k4
  have z5 := fun y : Aft w => y.cell h.k5
  have z6 := fun y : Aft w => y.cell h.k6
  have z7 := fun y : Aft w => y.cell h.k7
  have z8 := fun y : Aft w => y.cell h.k8
  have HT := Lib.hid (fun y : Aft w => (h.aft y).ints)
  have HE := Lib.hid (fun y : Aft w => (h.aft y).edits)
  have HP := Lib.hid (fun y : Aft w => h.aft y)
  have HSZ := Lib.hid h.sizes
  have HTI := Lib.hid h.title
  have OK := Lib.hid (okDeed_2s hk)
  have b1 : (d.kind == 1) = false := by simp [hk]
  have b2 : (d.kind == 2) = true := by simp [hk]
  clear h hk
  cases h0 : inB d.member 0 11 with
  | false =>
    refine calls_aft fun x0 => ?_
    go_enter Tryz.func54, Tryz.ntmps54
    go_wp2_with (first | (go_at_call 75; refine (aft_q (in1_val _ _ _ _ _ (by assumption))).mono ?_; rintro e _ ⟨rfl, y, rfl⟩) | (go_at_call 79; refine (aft_b (trust1_val _ _ _ _ _ _ (HT.out _) (by omega) (by omega) (by assumption))).mono ?_; rintro e _ ⟨rfl, y, rfl⟩) | (go_at_call 80; refine (aft_b (plain1_val d _ _ _ _ _ _ _ _ (HP.out _) (by assumption))).mono ?_; rintro e _ ⟨rfl, y, rfl⟩) | (go_at_call 81; refine (aft_q (name1_val _ _ _ HTI.out (by assumption))).mono ?_; rintro e _ ⟨rfl, y, rfl⟩) | (go_at_call 78; refine (aft_b (patch1_val _ _ _ _ (HE.out _) HSZ.out (by assumption))).mono ?_; rintro e _ ⟨rfl, y, rfl⟩) | (go_at_call 82; refine (aft_b (span1_val _ _ _ _ _ (by assumption))).mono ?_; rintro e _ ⟨rfl, y, rfl⟩))
    go_ret
    exact ⟨by rw [OK.out, h0]; rfl, y.ok⟩
  | true =>
    cases h1 : ((d.trust.length : Int) == 0) with
    | false =>
      refine calls_aft fun x0 => ?_
      go_enter Tryz.func54, Tryz.ntmps54
      go_wp2_with (first | (go_at_call 75; refine (aft_q (in1_val _ _ _ _ _ (by assumption))).mono ?_; rintro e _ ⟨rfl, y, rfl⟩) | (go_at_call 79; refine (aft_b (trust1_val _ _ _ _ _ _ (HT.out _) (by omega) (by omega) (by assumption))).mono ?_; rintro e _ ⟨rfl, y, rfl⟩) | (go_at_call 80; refine (aft_b (plain1_val d _ _ _ _ _ _ _ _ (HP.out _) (by assumption))).mono ?_; rintro e _ ⟨rfl, y, rfl⟩) | (go_at_call 81; refine (aft_q (name1_val _ _ _ HTI.out (by assumption))).mono ?_; rintro e _ ⟨rfl, y, rfl⟩) | (go_at_call 78; refine (aft_b (patch1_val _ _ _ _ (HE.out _) HSZ.out (by assumption))).mono ?_; rintro e _ ⟨rfl, y, rfl⟩) | (go_at_call 82; refine (aft_b (span1_val _ _ _ _ _ (by assumption))).mono ?_; rintro e _ ⟨rfl, y, rfl⟩))
      go_ret
      exact ⟨by rw [OK.out, h0, h1]; rfl, y.ok⟩
    | true =>
      cases h2 : okName d.title.toList with
      | false =>
        refine calls_aft fun x0 => ?_
        go_enter Tryz.func54, Tryz.ntmps54
        go_wp2_with (first | (go_at_call 75; refine (aft_q (in1_val _ _ _ _ _ (by assumption))).mono ?_; rintro e _ ⟨rfl, y, rfl⟩) | (go_at_call 79; refine (aft_b (trust1_val _ _ _ _ _ _ (HT.out _) (by omega) (by omega) (by assumption))).mono ?_; rintro e _ ⟨rfl, y, rfl⟩) | (go_at_call 80; refine (aft_b (plain1_val d _ _ _ _ _ _ _ _ (HP.out _) (by assumption))).mono ?_; rintro e _ ⟨rfl, y, rfl⟩) | (go_at_call 81; refine (aft_q (name1_val _ _ _ HTI.out (by assumption))).mono ?_; rintro e _ ⟨rfl, y, rfl⟩) | (go_at_call 78; refine (aft_b (patch1_val _ _ _ _ (HE.out _) HSZ.out (by assumption))).mono ?_; rintro e _ ⟨rfl, y, rfl⟩) | (go_at_call 82; refine (aft_b (span1_val _ _ _ _ _ (by assumption))).mono ?_; rintro e _ ⟨rfl, y, rfl⟩))
        go_ret
        exact ⟨by rw [OK.out, h0, h1, h2]; rfl, y.ok⟩
      | true =>
        cases h3 : inB d.vote 0 3 with
        | false =>
          refine calls_aft fun x0 => ?_
          go_enter Tryz.func54, Tryz.ntmps54
          go_wp2_with (first | (go_at_call 75; refine (aft_q (in1_val _ _ _ _ _ (by assumption))).mono ?_; rintro e _ ⟨rfl, y, rfl⟩) | (go_at_call 79; refine (aft_b (trust1_val _ _ _ _ _ _ (HT.out _) (by omega) (by omega) (by assumption))).mono ?_; rintro e _ ⟨rfl, y, rfl⟩) | (go_at_call 80; refine (aft_b (plain1_val d _ _ _ _ _ _ _ _ (HP.out _) (by assumption))).mono ?_; rintro e _ ⟨rfl, y, rfl⟩) | (go_at_call 81; refine (aft_q (name1_val _ _ _ HTI.out (by assumption))).mono ?_; rintro e _ ⟨rfl, y, rfl⟩) | (go_at_call 78; refine (aft_b (patch1_val _ _ _ _ (HE.out _) HSZ.out (by assumption))).mono ?_; rintro e _ ⟨rfl, y, rfl⟩) | (go_at_call 82; refine (aft_b (span1_val _ _ _ _ _ (by assumption))).mono ?_; rintro e _ ⟨rfl, y, rfl⟩))
          go_ret
          exact ⟨by rw [OK.out, h0, h1, h2, h3]; rfl, y.ok⟩
        | true =>
          cases h4 : plainB d with
          | false =>
            refine calls_aft fun x0 => ?_
            go_enter Tryz.func54, Tryz.ntmps54
            go_wp2_with (first | (go_at_call 75; refine (aft_q (in1_val _ _ _ _ _ (by assumption))).mono ?_; rintro e _ ⟨rfl, y, rfl⟩) | (go_at_call 79; refine (aft_b (trust1_val _ _ _ _ _ _ (HT.out _) (by omega) (by omega) (by assumption))).mono ?_; rintro e _ ⟨rfl, y, rfl⟩) | (go_at_call 80; refine (aft_b (plain1_val d _ _ _ _ _ _ _ _ (HP.out _) (by assumption))).mono ?_; rintro e _ ⟨rfl, y, rfl⟩) | (go_at_call 81; refine (aft_q (name1_val _ _ _ HTI.out (by assumption))).mono ?_; rintro e _ ⟨rfl, y, rfl⟩) | (go_at_call 78; refine (aft_b (patch1_val _ _ _ _ (HE.out _) HSZ.out (by assumption))).mono ?_; rintro e _ ⟨rfl, y, rfl⟩) | (go_at_call 82; refine (aft_b (span1_val _ _ _ _ _ (by assumption))).mono ?_; rintro e _ ⟨rfl, y, rfl⟩))
            go_ret
            exact ⟨by rw [OK.out, h0, h1, h2, h3, h4]; rfl, y.ok⟩
          | true =>
            refine calls_aft fun x0 => ?_
            go_enter Tryz.func54, Tryz.ntmps54
            go_wp2_with (first | (go_at_call 75; refine (aft_q (in1_val _ _ _ _ _ (by assumption))).mono ?_; rintro e _ ⟨rfl, y, rfl⟩) | (go_at_call 79; refine (aft_b (trust1_val _ _ _ _ _ _ (HT.out _) (by omega) (by omega) (by assumption))).mono ?_; rintro e _ ⟨rfl, y, rfl⟩) | (go_at_call 80; refine (aft_b (plain1_val d _ _ _ _ _ _ _ _ (HP.out _) (by assumption))).mono ?_; rintro e _ ⟨rfl, y, rfl⟩) | (go_at_call 81; refine (aft_q (name1_val _ _ _ HTI.out (by assumption))).mono ?_; rintro e _ ⟨rfl, y, rfl⟩) | (go_at_call 78; refine (aft_b (patch1_val _ _ _ _ (HE.out _) HSZ.out (by assumption))).mono ?_; rintro e _ ⟨rfl, y, rfl⟩) | (go_at_call 82; refine (aft_b (span1_val _ _ _ _ _ (by assumption))).mono ?_; rintro e _ ⟨rfl, y, rfl⟩))
            go_ret
            exact ⟨by rw [OK.out, h0, h1, h2, h3, h4]; rfl, y.ok⟩
set_option maxRecDepth 100000 in
set_option maxHeartbeats 8000000 in
theorem deed1_k3 (d : Deed) (b o : Nat) (A1 : Option Addr) (c1 : Nat) (A2 : Option Addr) (c2 : Nat) (w : World) (h : DeedP w b o d A1 c1 A2 c2) (hk : d.kind = 3) :
    Calls Tryz.prog 54 #[.pointer (some ⟨b, o, none⟩)] w (RetB (.bool (okDeed d)) w) := by
  have z0 := fun y : Aft w => y.cell h.k0
  have z1 := fun y : Aft w => y.cell h.k1
  have z2 := fun y : Aft w => y.cell h.k2
  have z3 := fun y : Aft w => y.cell h.k3
  have z4 := fun y : Aft w => y.cell h.k4
  have z5 := fun y : Aft w => y.cell h.k5
  have z6 := fun y : Aft w => y.cell h.k6
  have z7 := fun y : Aft w => y.cell h.k7
  have z8 := fun y : Aft w => y.cell h.k8
  have HT := Lib.hid (fun y : Aft w => (h.aft y).ints)
  have HE := Lib.hid (fun y : Aft w => (h.aft y).edits)
  have HP := Lib.hid (fun y : Aft w => h.aft y)
  have HSZ := Lib.hid h.sizes
  have HTI := Lib.hid h.title
  have OK := Lib.hid (okDeed_3s hk)
  have b1 : (d.kind == 1) = false := by simp [hk]
  have b2 : (d.kind == 2) = false := by simp [hk]
  have b3 : (d.kind == 3) = true := by simp [hk]
  clear h hk
  cases h0 : inB d.member 0 11 with
  | false =>
    refine calls_aft fun x0 => ?_
    go_enter Tryz.func54, Tryz.ntmps54
    go_wp2_with (first | (go_at_call 75; refine (aft_q (in1_val _ _ _ _ _ (by assumption))).mono ?_; rintro e _ ⟨rfl, y, rfl⟩) | (go_at_call 79; refine (aft_b (trust1_val _ _ _ _ _ _ (HT.out _) (by omega) (by omega) (by assumption))).mono ?_; rintro e _ ⟨rfl, y, rfl⟩) | (go_at_call 80; refine (aft_b (plain1_val d _ _ _ _ _ _ _ _ (HP.out _) (by assumption))).mono ?_; rintro e _ ⟨rfl, y, rfl⟩) | (go_at_call 81; refine (aft_q (name1_val _ _ _ HTI.out (by assumption))).mono ?_; rintro e _ ⟨rfl, y, rfl⟩) | (go_at_call 78; refine (aft_b (patch1_val _ _ _ _ (HE.out _) HSZ.out (by assumption))).mono ?_; rintro e _ ⟨rfl, y, rfl⟩) | (go_at_call 82; refine (aft_b (span1_val _ _ _ _ _ (by assumption))).mono ?_; rintro e _ ⟨rfl, y, rfl⟩))
    refine wp_region_at (by kernel_rfl) (by kernel_rfl) ?_
    repeat (go_big_quiet_step ((first | (go_at_call 75; exact aft_q (in1_val _ _ _ _ _ (by assumption))) | (go_at_call 79; exact aft_b (trust1_val _ _ _ _ _ _ (HT.out _) (by omega) (by omega) (by assumption))) | (go_at_call 80; exact aft_b (plain1_val d _ _ _ _ _ _ _ _ (HP.out _) (by assumption))) | (go_at_call 81; exact aft_q (name1_val _ _ _ HTI.out (by assumption))) | (go_at_call 78; exact aft_b (patch1_val _ _ _ _ (HE.out _) HSZ.out (by assumption))) | (go_at_call 82; exact aft_b (span1_val _ _ _ _ _ (by assumption))))))
    refine wpQuiet_nil ?_
    rintro _ ⟨y, rfl⟩
    go_wp2
    go_ret
    exact ⟨by rw [OK.out, h0]; rfl, y.ok⟩
  | true =>
    cases h1 : ((d.trust.length : Int) == 0) with
    | false =>
      refine calls_aft fun x0 => ?_
      go_enter Tryz.func54, Tryz.ntmps54
      go_wp2_with (first | (go_at_call 75; refine (aft_q (in1_val _ _ _ _ _ (by assumption))).mono ?_; rintro e _ ⟨rfl, y, rfl⟩) | (go_at_call 79; refine (aft_b (trust1_val _ _ _ _ _ _ (HT.out _) (by omega) (by omega) (by assumption))).mono ?_; rintro e _ ⟨rfl, y, rfl⟩) | (go_at_call 80; refine (aft_b (plain1_val d _ _ _ _ _ _ _ _ (HP.out _) (by assumption))).mono ?_; rintro e _ ⟨rfl, y, rfl⟩) | (go_at_call 81; refine (aft_q (name1_val _ _ _ HTI.out (by assumption))).mono ?_; rintro e _ ⟨rfl, y, rfl⟩) | (go_at_call 78; refine (aft_b (patch1_val _ _ _ _ (HE.out _) HSZ.out (by assumption))).mono ?_; rintro e _ ⟨rfl, y, rfl⟩) | (go_at_call 82; refine (aft_b (span1_val _ _ _ _ _ (by assumption))).mono ?_; rintro e _ ⟨rfl, y, rfl⟩))
      refine wp_region_at (by kernel_rfl) (by kernel_rfl) ?_
      repeat (go_big_quiet_step ((first | (go_at_call 75; exact aft_q (in1_val _ _ _ _ _ (by assumption))) | (go_at_call 79; exact aft_b (trust1_val _ _ _ _ _ _ (HT.out _) (by omega) (by omega) (by assumption))) | (go_at_call 80; exact aft_b (plain1_val d _ _ _ _ _ _ _ _ (HP.out _) (by assumption))) | (go_at_call 81; exact aft_q (name1_val _ _ _ HTI.out (by assumption))) | (go_at_call 78; exact aft_b (patch1_val _ _ _ _ (HE.out _) HSZ.out (by assumption))) | (go_at_call 82; exact aft_b (span1_val _ _ _ _ _ (by assumption))))))
      refine wpQuiet_nil ?_
      rintro _ ⟨y, rfl⟩
      go_wp2
      go_ret
      exact ⟨by rw [OK.out, h0, h1]; rfl, y.ok⟩
    | true =>
      cases h2 : okName d.title.toList with
      | false =>
        refine calls_aft fun x0 => ?_
        go_enter Tryz.func54, Tryz.ntmps54
        go_wp2_with (first | (go_at_call 75; refine (aft_q (in1_val _ _ _ _ _ (by assumption))).mono ?_; rintro e _ ⟨rfl, y, rfl⟩) | (go_at_call 79; refine (aft_b (trust1_val _ _ _ _ _ _ (HT.out _) (by omega) (by omega) (by assumption))).mono ?_; rintro e _ ⟨rfl, y, rfl⟩) | (go_at_call 80; refine (aft_b (plain1_val d _ _ _ _ _ _ _ _ (HP.out _) (by assumption))).mono ?_; rintro e _ ⟨rfl, y, rfl⟩) | (go_at_call 81; refine (aft_q (name1_val _ _ _ HTI.out (by assumption))).mono ?_; rintro e _ ⟨rfl, y, rfl⟩) | (go_at_call 78; refine (aft_b (patch1_val _ _ _ _ (HE.out _) HSZ.out (by assumption))).mono ?_; rintro e _ ⟨rfl, y, rfl⟩) | (go_at_call 82; refine (aft_b (span1_val _ _ _ _ _ (by assumption))).mono ?_; rintro e _ ⟨rfl, y, rfl⟩))
        refine wp_region_at (by kernel_rfl) (by kernel_rfl) ?_
        repeat (go_big_quiet_step ((first | (go_at_call 75; exact aft_q (in1_val _ _ _ _ _ (by assumption))) | (go_at_call 79; exact aft_b (trust1_val _ _ _ _ _ _ (HT.out _) (by omega) (by omega) (by assumption))) | (go_at_call 80; exact aft_b (plain1_val d _ _ _ _ _ _ _ _ (HP.out _) (by assumption))) | (go_at_call 81; exact aft_q (name1_val _ _ _ HTI.out (by assumption))) | (go_at_call 78; exact aft_b (patch1_val _ _ _ _ (HE.out _) HSZ.out (by assumption))) | (go_at_call 82; exact aft_b (span1_val _ _ _ _ _ (by assumption))))))
        refine wpQuiet_nil ?_
        rintro _ ⟨y, rfl⟩
        go_wp2
        go_ret
        exact ⟨by rw [OK.out, h0, h1, h2]; rfl, y.ok⟩
      | true =>
        cases h3 : (d.vote == 0) with
        | false =>
          refine calls_aft fun x0 => ?_
          go_enter Tryz.func54, Tryz.ntmps54
          go_wp2_with (first | (go_at_call 75; refine (aft_q (in1_val _ _ _ _ _ (by assumption))).mono ?_; rintro e _ ⟨rfl, y, rfl⟩) | (go_at_call 79; refine (aft_b (trust1_val _ _ _ _ _ _ (HT.out _) (by omega) (by omega) (by assumption))).mono ?_; rintro e _ ⟨rfl, y, rfl⟩) | (go_at_call 80; refine (aft_b (plain1_val d _ _ _ _ _ _ _ _ (HP.out _) (by assumption))).mono ?_; rintro e _ ⟨rfl, y, rfl⟩) | (go_at_call 81; refine (aft_q (name1_val _ _ _ HTI.out (by assumption))).mono ?_; rintro e _ ⟨rfl, y, rfl⟩) | (go_at_call 78; refine (aft_b (patch1_val _ _ _ _ (HE.out _) HSZ.out (by assumption))).mono ?_; rintro e _ ⟨rfl, y, rfl⟩) | (go_at_call 82; refine (aft_b (span1_val _ _ _ _ _ (by assumption))).mono ?_; rintro e _ ⟨rfl, y, rfl⟩))
          refine wp_region_at (by kernel_rfl) (by kernel_rfl) ?_
          repeat (go_big_quiet_step ((first | (go_at_call 75; exact aft_q (in1_val _ _ _ _ _ (by assumption))) | (go_at_call 79; exact aft_b (trust1_val _ _ _ _ _ _ (HT.out _) (by omega) (by omega) (by assumption))) | (go_at_call 80; exact aft_b (plain1_val d _ _ _ _ _ _ _ _ (HP.out _) (by assumption))) | (go_at_call 81; exact aft_q (name1_val _ _ _ HTI.out (by assumption))) | (go_at_call 78; exact aft_b (patch1_val _ _ _ _ (HE.out _) HSZ.out (by assumption))) | (go_at_call 82; exact aft_b (span1_val _ _ _ _ _ (by assumption))))))
          refine wpQuiet_nil ?_
          rintro _ ⟨y, rfl⟩
          go_wp2
          go_ret
          exact ⟨by rw [OK.out, h0, h1, h2, h3]; rfl, y.ok⟩
        | true =>
          cases h4 : decide ((0 : Int) < (d.patch.length : Int)) with
          | false =>
            have e4 : decide (0 < d.patch.length) = false := by rw [← h4]; exact decide_eq_decide.2 (by omega)
            refine calls_aft fun x0 => ?_
            go_enter Tryz.func54, Tryz.ntmps54
            go_wp2_with (first | (go_at_call 75; refine (aft_q (in1_val _ _ _ _ _ (by assumption))).mono ?_; rintro e _ ⟨rfl, y, rfl⟩) | (go_at_call 79; refine (aft_b (trust1_val _ _ _ _ _ _ (HT.out _) (by omega) (by omega) (by assumption))).mono ?_; rintro e _ ⟨rfl, y, rfl⟩) | (go_at_call 80; refine (aft_b (plain1_val d _ _ _ _ _ _ _ _ (HP.out _) (by assumption))).mono ?_; rintro e _ ⟨rfl, y, rfl⟩) | (go_at_call 81; refine (aft_q (name1_val _ _ _ HTI.out (by assumption))).mono ?_; rintro e _ ⟨rfl, y, rfl⟩) | (go_at_call 78; refine (aft_b (patch1_val _ _ _ _ (HE.out _) HSZ.out (by assumption))).mono ?_; rintro e _ ⟨rfl, y, rfl⟩) | (go_at_call 82; refine (aft_b (span1_val _ _ _ _ _ (by assumption))).mono ?_; rintro e _ ⟨rfl, y, rfl⟩))
            refine wp_region_at (by kernel_rfl) (by kernel_rfl) ?_
            repeat (go_big_quiet_step ((first | (go_at_call 75; exact aft_q (in1_val _ _ _ _ _ (by assumption))) | (go_at_call 79; exact aft_b (trust1_val _ _ _ _ _ _ (HT.out _) (by omega) (by omega) (by assumption))) | (go_at_call 80; exact aft_b (plain1_val d _ _ _ _ _ _ _ _ (HP.out _) (by assumption))) | (go_at_call 81; exact aft_q (name1_val _ _ _ HTI.out (by assumption))) | (go_at_call 78; exact aft_b (patch1_val _ _ _ _ (HE.out _) HSZ.out (by assumption))) | (go_at_call 82; exact aft_b (span1_val _ _ _ _ _ (by assumption))))))
            refine wpQuiet_nil ?_
            rintro _ ⟨y, rfl⟩
            go_wp2
            go_ret
            exact ⟨by rw [OK.out, h0, h1, h2, h3, h4]; rfl, y.ok⟩
          | true =>
            have e4 : decide (0 < d.patch.length) = true := by rw [← h4]; exact decide_eq_decide.2 (by omega)
            cases h5 : okPatch d.patch with
            | false =>
              refine calls_aft fun x0 => ?_
              go_enter Tryz.func54, Tryz.ntmps54
              go_wp2_with (first | (go_at_call 75; refine (aft_q (in1_val _ _ _ _ _ (by assumption))).mono ?_; rintro e _ ⟨rfl, y, rfl⟩) | (go_at_call 79; refine (aft_b (trust1_val _ _ _ _ _ _ (HT.out _) (by omega) (by omega) (by assumption))).mono ?_; rintro e _ ⟨rfl, y, rfl⟩) | (go_at_call 80; refine (aft_b (plain1_val d _ _ _ _ _ _ _ _ (HP.out _) (by assumption))).mono ?_; rintro e _ ⟨rfl, y, rfl⟩) | (go_at_call 81; refine (aft_q (name1_val _ _ _ HTI.out (by assumption))).mono ?_; rintro e _ ⟨rfl, y, rfl⟩) | (go_at_call 78; refine (aft_b (patch1_val _ _ _ _ (HE.out _) HSZ.out (by assumption))).mono ?_; rintro e _ ⟨rfl, y, rfl⟩) | (go_at_call 82; refine (aft_b (span1_val _ _ _ _ _ (by assumption))).mono ?_; rintro e _ ⟨rfl, y, rfl⟩))
              refine wp_region_at (by kernel_rfl) (by kernel_rfl) ?_
              repeat (go_big_quiet_step ((first | (go_at_call 75; exact aft_q (in1_val _ _ _ _ _ (by assumption))) | (go_at_call 79; exact aft_b (trust1_val _ _ _ _ _ _ (HT.out _) (by omega) (by omega) (by assumption))) | (go_at_call 80; exact aft_b (plain1_val d _ _ _ _ _ _ _ _ (HP.out _) (by assumption))) | (go_at_call 81; exact aft_q (name1_val _ _ _ HTI.out (by assumption))) | (go_at_call 78; exact aft_b (patch1_val _ _ _ _ (HE.out _) HSZ.out (by assumption))) | (go_at_call 82; exact aft_b (span1_val _ _ _ _ _ (by assumption))))))
              refine wpQuiet_nil ?_
              rintro _ ⟨y, rfl⟩
              go_wp2
              go_ret
              exact ⟨by rw [OK.out, h0, h1, h2, h3, h4, h5]; rfl, y.ok⟩
            | true =>
              cases h6 : spanB d.start d.until_ d.closes with
              | false =>
                refine calls_aft fun x0 => ?_
                go_enter Tryz.func54, Tryz.ntmps54
                go_wp2_with (first | (go_at_call 75; refine (aft_q (in1_val _ _ _ _ _ (by assumption))).mono ?_; rintro e _ ⟨rfl, y, rfl⟩) | (go_at_call 79; refine (aft_b (trust1_val _ _ _ _ _ _ (HT.out _) (by omega) (by omega) (by assumption))).mono ?_; rintro e _ ⟨rfl, y, rfl⟩) | (go_at_call 80; refine (aft_b (plain1_val d _ _ _ _ _ _ _ _ (HP.out _) (by assumption))).mono ?_; rintro e _ ⟨rfl, y, rfl⟩) | (go_at_call 81; refine (aft_q (name1_val _ _ _ HTI.out (by assumption))).mono ?_; rintro e _ ⟨rfl, y, rfl⟩) | (go_at_call 78; refine (aft_b (patch1_val _ _ _ _ (HE.out _) HSZ.out (by assumption))).mono ?_; rintro e _ ⟨rfl, y, rfl⟩) | (go_at_call 82; refine (aft_b (span1_val _ _ _ _ _ (by assumption))).mono ?_; rintro e _ ⟨rfl, y, rfl⟩))
                refine wp_region_at (by kernel_rfl) (by kernel_rfl) ?_
                repeat (go_big_quiet_step ((first | (go_at_call 75; exact aft_q (in1_val _ _ _ _ _ (by assumption))) | (go_at_call 79; exact aft_b (trust1_val _ _ _ _ _ _ (HT.out _) (by omega) (by omega) (by assumption))) | (go_at_call 80; exact aft_b (plain1_val d _ _ _ _ _ _ _ _ (HP.out _) (by assumption))) | (go_at_call 81; exact aft_q (name1_val _ _ _ HTI.out (by assumption))) | (go_at_call 78; exact aft_b (patch1_val _ _ _ _ (HE.out _) HSZ.out (by assumption))) | (go_at_call 82; exact aft_b (span1_val _ _ _ _ _ (by assumption))))))
                refine wpQuiet_nil ?_
                rintro _ ⟨y, rfl⟩
                go_wp2
                go_ret
                exact ⟨by rw [OK.out, h0, h1, h2, h3, h4, h5, h6]; rfl, y.ok⟩
              | true =>
                refine calls_aft fun x0 => ?_
                go_enter Tryz.func54, Tryz.ntmps54
                go_wp2_with (first | (go_at_call 75; refine (aft_q (in1_val _ _ _ _ _ (by assumption))).mono ?_; rintro e _ ⟨rfl, y, rfl⟩) | (go_at_call 79; refine (aft_b (trust1_val _ _ _ _ _ _ (HT.out _) (by omega) (by omega) (by assumption))).mono ?_; rintro e _ ⟨rfl, y, rfl⟩) | (go_at_call 80; refine (aft_b (plain1_val d _ _ _ _ _ _ _ _ (HP.out _) (by assumption))).mono ?_; rintro e _ ⟨rfl, y, rfl⟩) | (go_at_call 81; refine (aft_q (name1_val _ _ _ HTI.out (by assumption))).mono ?_; rintro e _ ⟨rfl, y, rfl⟩) | (go_at_call 78; refine (aft_b (patch1_val _ _ _ _ (HE.out _) HSZ.out (by assumption))).mono ?_; rintro e _ ⟨rfl, y, rfl⟩) | (go_at_call 82; refine (aft_b (span1_val _ _ _ _ _ (by assumption))).mono ?_; rintro e _ ⟨rfl, y, rfl⟩))
                refine wp_region_at (by kernel_rfl) (by kernel_rfl) ?_
                repeat (go_big_quiet_step ((first | (go_at_call 75; exact aft_q (in1_val _ _ _ _ _ (by assumption))) | (go_at_call 79; exact aft_b (trust1_val _ _ _ _ _ _ (HT.out _) (by omega) (by omega) (by assumption))) | (go_at_call 80; exact aft_b (plain1_val d _ _ _ _ _ _ _ _ (HP.out _) (by assumption))) | (go_at_call 81; exact aft_q (name1_val _ _ _ HTI.out (by assumption))) | (go_at_call 78; exact aft_b (patch1_val _ _ _ _ (HE.out _) HSZ.out (by assumption))) | (go_at_call 82; exact aft_b (span1_val _ _ _ _ _ (by assumption))))))
                refine wpQuiet_nil ?_
                rintro _ ⟨y, rfl⟩
                go_wp2
                go_ret
                exact ⟨by rw [OK.out, h0, h1, h2, h3, h4, h5, h6]; rfl, y.ok⟩
set_option maxRecDepth 100000 in
set_option maxHeartbeats 8000000 in
theorem deed1_k4 (d : Deed) (b o : Nat) (A1 : Option Addr) (c1 : Nat) (A2 : Option Addr) (c2 : Nat) (w : World) (h : DeedP w b o d A1 c1 A2 c2) (hk : d.kind = 4) :
    Calls Tryz.prog 54 #[.pointer (some ⟨b, o, none⟩)] w (RetB (.bool (okDeed d)) w) := by
  have z0 := fun y : Aft w => y.cell h.k0
  have z1 := fun y : Aft w => y.cell h.k1
  have z2 := fun y : Aft w => y.cell h.k2
  have z3 := fun y : Aft w => y.cell h.k3
  have z4 := fun y : Aft w => y.cell h.k4
  have z5 := fun y : Aft w => y.cell h.k5
  have z6 := fun y : Aft w => y.cell h.k6
  have z7 := fun y : Aft w => y.cell h.k7
  have z8 := fun y : Aft w => y.cell h.k8
  have HT := Lib.hid (fun y : Aft w => (h.aft y).ints)
  have HE := Lib.hid (fun y : Aft w => (h.aft y).edits)
  have HP := Lib.hid (fun y : Aft w => h.aft y)
  have HSZ := Lib.hid h.sizes
  have HTI := Lib.hid h.title
  have OK := Lib.hid (okDeed_4s hk)
  have b1 : (d.kind == 1) = false := by simp [hk]
  have b2 : (d.kind == 2) = false := by simp [hk]
  have b3 : (d.kind == 3) = false := by simp [hk]
  have b4 : (d.kind == 4) = true := by simp [hk]
  clear h hk
  obtain ⟨rm, hm⟩ : ∃ r, inB d.member 0 11 = r := ⟨_, rfl⟩
  cases h0 : (d.member == 0) with
  | false =>
    refine calls_aft fun x0 => ?_
    go_enter Tryz.func54, Tryz.ntmps54
    go_wp2_with (first | (go_at_call 75; refine (aft_q (in1_val _ _ _ _ _ (by assumption))).mono ?_; rintro e _ ⟨rfl, y, rfl⟩) | (go_at_call 79; refine (aft_b (trust1_val _ _ _ _ _ _ (HT.out _) (by omega) (by omega) (by assumption))).mono ?_; rintro e _ ⟨rfl, y, rfl⟩) | (go_at_call 80; refine (aft_b (plain1_val d _ _ _ _ _ _ _ _ (HP.out _) (by assumption))).mono ?_; rintro e _ ⟨rfl, y, rfl⟩) | (go_at_call 81; refine (aft_q (name1_val _ _ _ HTI.out (by assumption))).mono ?_; rintro e _ ⟨rfl, y, rfl⟩) | (go_at_call 78; refine (aft_b (patch1_val _ _ _ _ (HE.out _) HSZ.out (by assumption))).mono ?_; rintro e _ ⟨rfl, y, rfl⟩) | (go_at_call 82; refine (aft_b (span1_val _ _ _ _ _ (by assumption))).mono ?_; rintro e _ ⟨rfl, y, rfl⟩))
    go_ret
    exact ⟨by rw [OK.out, h0]; rfl, y.ok⟩
  | true =>
    cases h1 : ((d.trust.length : Int) == 0) with
    | false =>
      refine calls_aft fun x0 => ?_
      go_enter Tryz.func54, Tryz.ntmps54
      go_wp2_with (first | (go_at_call 75; refine (aft_q (in1_val _ _ _ _ _ (by assumption))).mono ?_; rintro e _ ⟨rfl, y, rfl⟩) | (go_at_call 79; refine (aft_b (trust1_val _ _ _ _ _ _ (HT.out _) (by omega) (by omega) (by assumption))).mono ?_; rintro e _ ⟨rfl, y, rfl⟩) | (go_at_call 80; refine (aft_b (plain1_val d _ _ _ _ _ _ _ _ (HP.out _) (by assumption))).mono ?_; rintro e _ ⟨rfl, y, rfl⟩) | (go_at_call 81; refine (aft_q (name1_val _ _ _ HTI.out (by assumption))).mono ?_; rintro e _ ⟨rfl, y, rfl⟩) | (go_at_call 78; refine (aft_b (patch1_val _ _ _ _ (HE.out _) HSZ.out (by assumption))).mono ?_; rintro e _ ⟨rfl, y, rfl⟩) | (go_at_call 82; refine (aft_b (span1_val _ _ _ _ _ (by assumption))).mono ?_; rintro e _ ⟨rfl, y, rfl⟩))
      go_ret
      exact ⟨by rw [OK.out, h0, h1]; rfl, y.ok⟩
    | true =>
      cases h2 : d.title.toList.isEmpty with
      | false =>
        refine calls_aft fun x0 => ?_
        go_enter Tryz.func54, Tryz.ntmps54
        go_wp2_with (first | (go_at_call 75; refine (aft_q (in1_val _ _ _ _ _ (by assumption))).mono ?_; rintro e _ ⟨rfl, y, rfl⟩) | (go_at_call 79; refine (aft_b (trust1_val _ _ _ _ _ _ (HT.out _) (by omega) (by omega) (by assumption))).mono ?_; rintro e _ ⟨rfl, y, rfl⟩) | (go_at_call 80; refine (aft_b (plain1_val d _ _ _ _ _ _ _ _ (HP.out _) (by assumption))).mono ?_; rintro e _ ⟨rfl, y, rfl⟩) | (go_at_call 81; refine (aft_q (name1_val _ _ _ HTI.out (by assumption))).mono ?_; rintro e _ ⟨rfl, y, rfl⟩) | (go_at_call 78; refine (aft_b (patch1_val _ _ _ _ (HE.out _) HSZ.out (by assumption))).mono ?_; rintro e _ ⟨rfl, y, rfl⟩) | (go_at_call 82; refine (aft_b (span1_val _ _ _ _ _ (by assumption))).mono ?_; rintro e _ ⟨rfl, y, rfl⟩))
        go_ret
        exact ⟨by rw [OK.out, h0, h1, h2]; rfl, y.ok⟩
      | true =>
        cases h3 : (d.vote == 0) with
        | false =>
          refine calls_aft fun x0 => ?_
          go_enter Tryz.func54, Tryz.ntmps54
          go_wp2_with (first | (go_at_call 75; refine (aft_q (in1_val _ _ _ _ _ (by assumption))).mono ?_; rintro e _ ⟨rfl, y, rfl⟩) | (go_at_call 79; refine (aft_b (trust1_val _ _ _ _ _ _ (HT.out _) (by omega) (by omega) (by assumption))).mono ?_; rintro e _ ⟨rfl, y, rfl⟩) | (go_at_call 80; refine (aft_b (plain1_val d _ _ _ _ _ _ _ _ (HP.out _) (by assumption))).mono ?_; rintro e _ ⟨rfl, y, rfl⟩) | (go_at_call 81; refine (aft_q (name1_val _ _ _ HTI.out (by assumption))).mono ?_; rintro e _ ⟨rfl, y, rfl⟩) | (go_at_call 78; refine (aft_b (patch1_val _ _ _ _ (HE.out _) HSZ.out (by assumption))).mono ?_; rintro e _ ⟨rfl, y, rfl⟩) | (go_at_call 82; refine (aft_b (span1_val _ _ _ _ _ (by assumption))).mono ?_; rintro e _ ⟨rfl, y, rfl⟩))
          go_ret
          exact ⟨by rw [OK.out, h0, h1, h2, h3]; rfl, y.ok⟩
        | true =>
          cases h4 : plainB d with
          | false =>
            refine calls_aft fun x0 => ?_
            go_enter Tryz.func54, Tryz.ntmps54
            go_wp2_with (first | (go_at_call 75; refine (aft_q (in1_val _ _ _ _ _ (by assumption))).mono ?_; rintro e _ ⟨rfl, y, rfl⟩) | (go_at_call 79; refine (aft_b (trust1_val _ _ _ _ _ _ (HT.out _) (by omega) (by omega) (by assumption))).mono ?_; rintro e _ ⟨rfl, y, rfl⟩) | (go_at_call 80; refine (aft_b (plain1_val d _ _ _ _ _ _ _ _ (HP.out _) (by assumption))).mono ?_; rintro e _ ⟨rfl, y, rfl⟩) | (go_at_call 81; refine (aft_q (name1_val _ _ _ HTI.out (by assumption))).mono ?_; rintro e _ ⟨rfl, y, rfl⟩) | (go_at_call 78; refine (aft_b (patch1_val _ _ _ _ (HE.out _) HSZ.out (by assumption))).mono ?_; rintro e _ ⟨rfl, y, rfl⟩) | (go_at_call 82; refine (aft_b (span1_val _ _ _ _ _ (by assumption))).mono ?_; rintro e _ ⟨rfl, y, rfl⟩))
            go_ret
            exact ⟨by rw [OK.out, h0, h1, h2, h3, h4]; rfl, y.ok⟩
          | true =>
            refine calls_aft fun x0 => ?_
            go_enter Tryz.func54, Tryz.ntmps54
            go_wp2_with (first | (go_at_call 75; refine (aft_q (in1_val _ _ _ _ _ (by assumption))).mono ?_; rintro e _ ⟨rfl, y, rfl⟩) | (go_at_call 79; refine (aft_b (trust1_val _ _ _ _ _ _ (HT.out _) (by omega) (by omega) (by assumption))).mono ?_; rintro e _ ⟨rfl, y, rfl⟩) | (go_at_call 80; refine (aft_b (plain1_val d _ _ _ _ _ _ _ _ (HP.out _) (by assumption))).mono ?_; rintro e _ ⟨rfl, y, rfl⟩) | (go_at_call 81; refine (aft_q (name1_val _ _ _ HTI.out (by assumption))).mono ?_; rintro e _ ⟨rfl, y, rfl⟩) | (go_at_call 78; refine (aft_b (patch1_val _ _ _ _ (HE.out _) HSZ.out (by assumption))).mono ?_; rintro e _ ⟨rfl, y, rfl⟩) | (go_at_call 82; refine (aft_b (span1_val _ _ _ _ _ (by assumption))).mono ?_; rintro e _ ⟨rfl, y, rfl⟩))
            go_ret
            exact ⟨by rw [OK.out, h0, h1, h2, h3, h4]; rfl, y.ok⟩
end Go.Proofs.YthlfpiflegfoiaaGreatDoor
