/- Deeds, walked: the reference's test. -/
import Derived.Test.YthlfpiflegfoiaaGreatDoorLawM
namespace Go.Proofs.YthlfpiflegfoiaaGreatDoor
open Go.RowKit

set_option maxHeartbeats 1000000 in
theorem has1_any (zs : List Int) (z : Int) (w : World) (v : Value) (h : Ints w w.heap.size v zs) :
    Calls Tryz.prog 98 #[v, .int .i64 z] w (RetB (.bool (zs.contains z)) w) := by
  obtain ⟨A, c, rfl, hc, hm, hel⟩ := h
  unfold maxLen at hm
  have hlm : zs.length ≤ 9223372036854775807 := by omega
  have HEL := Lib.hid hel
  obtain ⟨r, hr⟩ : ∃ r, zs.contains z = r := ⟨_, rfl⟩
  rw [hr]
  have HR := Lib.hid hr
  clear hel hr
  go_enter Tryz.func98, Tryz.ntmps98
  go_wp2
  go_loop [5] (fun i => ∃ k : Nat, k ≤ zs.length ∧ i = .int .i64 (k : Int) ∧ z ∉ zs.take k) (fun i => zs.length - (intOf i).toNat)
  case atStart => exact ⟨0, Nat.zero_le _, rfl, by simp⟩
  case round =>
    obtain ⟨k, hk, rfl, hno⟩ := hrel
    have HN := Lib.hid hno
    clear hno
    by_cases hlt : k < zs.length
    · obtain ⟨b, off, rfl, hblt, hcell⟩ := HEL.out (by omega)
      have hget : zs[k]? = some zs[k] := List.getElem?_eq_getElem hlt
      have x0 := ints_at hcell hget
      have hts : zs.take (k + 1) = zs.take k ++ [zs[k]] := by rw [List.take_succ_eq_append_getElem hlt]
      have HG := Lib.hid hget
      have HT := Lib.hid hts
      clear hget hcell hts
      generalize zs[k] = u at *
      by_cases hz : u = z
      · have hz1 : (u == z) = true := by simp [hz]
        have HC : Hid (r = true) := Lib.hid (by rw [← HR.out, List.contains_iff_mem, ← hz]; exact List.mem_of_getElem? HG.out)
        clear hz
        go_wp2
        go_ret
        exact ⟨by rw [HC.out]; rfl, Below.refl _ _⟩
      · have hz1 : (u == z) = false := by simp [hz]
        have HZ := Lib.hid hz
        clear hz
        go_wp2
        go_round
        case rel => exact ⟨k + 1, by omega, by go_num, by rw [HT.out, List.mem_append, List.mem_singleton]; rintro (h | h); exact HN.out h; exact HZ.out h.symm⟩
        case measure => simp [intOf]; omega
    · have hk' : k = zs.length := by omega
      have hge : ¬ (k : Int) < (zs.length : Int) := by omega
      have HC : Hid (r = false) := Lib.hid (by
        rw [← HR.out, Bool.eq_false_iff, ne_eq, List.contains_iff_mem]
        have := HN.out
        rwa [hk', List.take_length] at this)
      clear hk' hlt
      go_wp2
      go_ret
      exact ⟨by rw [HC.out]; rfl, Below.refl _ _⟩
theorem has1_val (zs : List Int) (z : Int) (w : World) (v : Value) (r : Bool) (h : Ints w w.heap.size v zs) (hr : zs.contains z = r) :
    Calls Tryz.prog 98 #[v, .int .i64 z] w (RetB (.bool r) w) := hr ▸ has1_any zs z w v h

set_option maxHeartbeats 4000000 in
theorem trust1_any (zs : List Int) (member n : Int) (w : World) (v : Value) (h : Ints w w.heap.size v zs) (hn1 : -1000 ≤ n) (hn2 : n ≤ 1000) :
    Calls Tryz.prog 79 #[v, .int .i64 member, .int .i64 n] w (RetB (.bool (okTrust zs member n)) w) := by
  have HI := Lib.hid h
  obtain ⟨A, c, rfl, hc, hm, hel⟩ := h
  unfold maxLen at hm
  have hlm : zs.length ≤ 9223372036854775807 := by omega
  have HEL := Lib.hid hel
  clear hel
  have hw1 : IntKind.i64.wrap (n - 1) = n - 1 := IntWalk.i64_in _ (by omega)
  have HW := Lib.hid hw1
  clear hw1
  refine calls_aft fun x0 => ?_
  go_enter Tryz.func79, Tryz.ntmps79
  go_wp2
  go_loopw [7] (fun i wr => ∃ (k : Nat) (x : Aft w), k ≤ zs.length ∧ i = .int .i64 (k : Int) ∧ allLt k (trustAt zs member n) = true ∧ wr = x.val) (fun i _ => zs.length - (intOf i).toNat)
  case atStart => exact ⟨0, x0, Nat.zero_le _, rfl, rfl, rfl⟩
  case round =>
    obtain ⟨k, x, hk, rfl, hall, rfl⟩ := hrel
    have HA := Lib.hid hall
    clear hall
    by_cases hlt : k < zs.length
    · obtain ⟨b, off, hA, hblt, hcell⟩ := HEL.out (by omega)
      subst hA
      have hget : zs[k]? = some zs[k] := List.getElem?_eq_getElem hlt
      have c0 := ints_at hcell hget
      have z0 := fun y : Aft w => y.cell c0
      have HG := Lib.hid hget
      have HT := Lib.hid (trustAt_eq (member := member) (n := n) hget)
      have HSU := allLt_succ k (trustAt zs member n)
      rw [HA.out, Bool.true_and] at HSU
      have HSU := Lib.hid HSU
      have HSub : Hid (∀ y : Aft w, Ints y.val y.val.heap.size (.slice (some ⟨b, off, none⟩) k c) (zs.take k)) := Lib.hid (SlR.aft (SlR.take HI.out k hk) (Pl.stays _) (Nat.le_refl _))
      clear hget hcell c0
      generalize zs[k] = z at *
      have hk1 : (k : Int) ≤ (c : Int) := by omega
      have hk0 : (0 : Int) ≤ (k : Int) := by omega
      cases h1 : inB z 0 (n - 1) with
      | false =>
        have HB := Lib.hid (okTrust_bad hlt (HT.out.trans (by rw [h1]; rfl)))
        have hw1 := HW.out
        go_wp2_with (fail)
        refine wp_region_at (by kernel_rfl) (by kernel_rfl) ?_
        repeat (go_big_quiet_step ((first | (go_at_call 75; exact aft_q (in1_val _ _ _ _ _ h1)))))
        refine wpQuiet_nil ?_
        rintro _ ⟨y, rfl⟩
        go_wp2
        go_ret
        exact ⟨by rw [HB.out]; rfl, y.ok⟩
      | true =>
        by_cases hz : z = member
        · have hz1 : (z == member) = true := by simp [hz]
          have HB := Lib.hid (okTrust_bad hlt (HT.out.trans (by rw [h1]; simp [hz])))
          have hw1 := HW.out
          clear hz
          go_wp2_with (fail)
          refine wp_region_at (by kernel_rfl) (by kernel_rfl) ?_
          repeat (go_big_quiet_step ((first | (go_at_call 75; exact aft_q (in1_val _ _ _ _ _ h1)))))
          refine wpQuiet_nil ?_
          rintro _ ⟨y, rfl⟩
          go_wp2
          go_ret
          exact ⟨by rw [HB.out]; rfl, y.ok⟩
        · have hz1 : (z == member) = false := by simp [hz]
          have HZ := Lib.hid hz
          clear hz
          cases h2 : (zs.take k).contains z with
          | true =>
            have H2 := Lib.hid h2
            have HB := Lib.hid (okTrust_bad hlt (HT.out.trans (by rw [h2]; simp)))
            clear h2
            have hw1 := HW.out
            go_wp2_with (fail)
            refine wp_region_at (by kernel_rfl) (by kernel_rfl) ?_
            repeat (go_big_quiet_step ((first | (go_at_call 75; exact aft_q (in1_val _ _ _ _ _ h1)) | (go_at_call 98; exact aft_b (has1_val _ _ _ _ _ (HSub.out _) H2.out)))))
            refine wpQuiet_nil ?_
            rintro _ ⟨y, rfl⟩
            go_wp2
            go_ret
            exact ⟨by rw [HB.out]; rfl, y.ok⟩
          | false =>
            have H2 := Lib.hid h2
            have HN : Hid (allLt (k + 1) (trustAt zs member n) = true) := HSU.out.trans (HT.out.trans (by rw [h1, h2]; simp [HZ.out]))
            clear h2
            have hw1 := HW.out
            go_wp2_with (fail)
            refine wp_region_at (by kernel_rfl) (by kernel_rfl) ?_
            repeat (go_big_quiet_step ((first | (go_at_call 75; exact aft_q (in1_val _ _ _ _ _ h1)) | (go_at_call 98; exact aft_b (has1_val _ _ _ _ _ (HSub.out _) H2.out)))))
            refine wpQuiet_nil ?_
            rintro _ ⟨y, rfl⟩
            go_wp2
            go_roundw
            case rel => exact ⟨k + 1, y, by omega, by go_num, HN.out, rfl⟩
            case measure => simp [intOf]; omega
    · have hk' : k = zs.length := by omega
      have hP : okTrust zs member n = decide (zs.length ≤ 4) := by
        rw [okTrust_eq, ← hk', HA.out, Bool.true_and]
      have HP := Lib.hid hP
      have hge : ¬ (k : Int) < (zs.length : Int) := by omega
      clear hP hk' hlt
      by_cases h4 : zs.length ≤ 4
      all_goals
        have H4 := Lib.hid h4
        have e4 : decide ((zs.length : Int) ≤ 4) = decide (zs.length ≤ 4) := decide_eq_decide.2 (by omega)
        first | rw [decide_eq_true H4.out] at e4 | rw [decide_eq_false H4.out] at e4
        clear h4
        go_wp2
        go_ret
        exact ⟨by rw [HP.out]; simp [H4.out], x.ok⟩
theorem trust1_val (zs : List Int) (member n : Int) (w : World) (v : Value) (r : Bool) (h : Ints w w.heap.size v zs) (hn1 : -1000 ≤ n) (hn2 : n ≤ 1000) (hr : okTrust zs member n = r) :
    Calls Tryz.prog 79 #[v, .int .i64 member, .int .i64 n] w (RetB (.bool r) w) := hr ▸ trust1_any zs member n w v h hn1 hn2

/-- A deed behind a pointer. -/
structure DeedP (w : World) (b o : Nat) (d : Deed) (A1 : Option Addr) (c1 : Nat) (A2 : Option Addr) (c2 : Nat) : Prop where
  k0 : w.cell? ⟨b, o, none⟩ = some (.int .i64 d.kind)
  k1 : w.cell? ⟨b, o + 1, none⟩ = some (.int .i64 d.member)
  k2 : w.cell? ⟨b, o + 2, none⟩ = some (.slice A1 d.trust.length c1)
  k3 : w.cell? ⟨b, o + 3, none⟩ = some (.string d.title)
  k4 : w.cell? ⟨b, o + 4, none⟩ = some (.int .i64 d.vote)
  k5 : w.cell? ⟨b, o + 5, none⟩ = some (.slice A2 d.patch.length c2)
  k6 : w.cell? ⟨b, o + 6, none⟩ = some (.int .i64 d.start)
  k7 : w.cell? ⟨b, o + 7, none⟩ = some (.int .i64 d.until_)
  k8 : w.cell? ⟨b, o + 8, none⟩ = some (.int .i64 d.closes)
  ints : Ints w w.heap.size (.slice A1 d.trust.length c1) d.trust
  edits : Edits w w.heap.size (.slice A2 d.patch.length c2) d.patch
  sizes : SizesOk d.patch
  title : d.title.size ≤ maxLen
theorem DeedP.aft {w : World} {b o : Nat} {d : Deed} {A1 : Option Addr} {c1 : Nat} {A2 : Option Addr} {c2 : Nat} (h : DeedP w b o d A1 c1 A2 c2) (x : Aft w) : DeedP x.val b o d A1 c1 A2 c2 :=
  ⟨x.cell h.k0, x.cell h.k1, x.cell h.k2, x.cell h.k3, x.cell h.k4, x.cell h.k5, x.cell h.k6, x.cell h.k7, x.cell h.k8, h.ints.aft (Pl.stays _) (Nat.le_refl _) x, h.edits.aft (Pl.stays _) (Nat.le_refl _) x, h.sizes, h.title⟩

set_option maxHeartbeats 1000000 in
theorem plain1_any (d : Deed) (b o : Nat) (A1 : Option Addr) (c1 : Nat) (A2 : Option Addr) (c2 : Nat) (w : World) (h : DeedP w b o d A1 c1 A2 c2) :
    Calls Tryz.prog 80 #[.pointer (some ⟨b, o, none⟩)] w (RetB (.bool (plainB d)) w) := by
  have z5 := h.k5
  have z6 := h.k6
  have z7 := h.k7
  have z8 := h.k8
  have hp := len_zero d.patch
  clear h
  cases e1 : d.patch.isEmpty with
  | false =>
    rw [e1] at hp
    have E1 := Lib.hid e1
    clear e1
    go_enter Tryz.func80, Tryz.ntmps80
    go_wp2
    go_ret
    exact ⟨by unfold plainB; rw [E1.out]; rfl, Below.refl _ _⟩
  | true =>
    rw [e1] at hp
    have E1 := Lib.hid e1
    clear e1
    by_cases h1 : d.start = 0
    · have b1 : (d.start == 0) = true := by simp [h1]
      have H1 := Lib.hid h1
      clear h1
      by_cases h2 : d.until_ = 0
      · have b2 : (d.until_ == 0) = true := by simp [h2]
        have H2 := Lib.hid h2
        clear h2
        by_cases h3 : d.closes = 0
        · have b3 : (d.closes == 0) = true := by simp [h3]
          have H3 := Lib.hid h3
          clear h3
          go_enter Tryz.func80, Tryz.ntmps80
          go_wp2
          go_ret
          exact ⟨by unfold plainB; rw [E1.out, H1.out, H2.out, H3.out]; rfl, Below.refl _ _⟩
        · have b3 : (d.closes == 0) = false := by simp [h3]
          have H3 := Lib.hid h3
          clear h3
          go_enter Tryz.func80, Tryz.ntmps80
          go_wp2
          go_ret
          exact ⟨by unfold plainB; simp [H3.out], Below.refl _ _⟩
      · have b2 : (d.until_ == 0) = false := by simp [h2]
        have H2 := Lib.hid h2
        clear h2
        go_enter Tryz.func80, Tryz.ntmps80
        go_wp2
        go_ret
        exact ⟨by unfold plainB; simp [H2.out], Below.refl _ _⟩
    · have b1 : (d.start == 0) = false := by simp [h1]
      have H1 := Lib.hid h1
      clear h1
      go_enter Tryz.func80, Tryz.ntmps80
      go_wp2
      go_ret
      exact ⟨by unfold plainB; simp [H1.out], Below.refl _ _⟩
theorem plain1_val (d : Deed) (b o : Nat) (A1 : Option Addr) (c1 : Nat) (A2 : Option Addr) (c2 : Nat) (w : World) (r : Bool) (h : DeedP w b o d A1 c1 A2 c2) (hr : plainB d = r) :
    Calls Tryz.prog 80 #[.pointer (some ⟨b, o, none⟩)] w (RetB (.bool r) w) := hr ▸ plain1_any d b o A1 c1 A2 c2 w h

def spanB (start until_ closes : Int) : Bool := inB closes 1 999 && inB until_ 1 1000 && inB start closes (until_ - 1)
set_option maxHeartbeats 1000000 in
theorem span1_any (start until_ closes : Int) (w : World) :
    Calls Tryz.prog 82 #[.int .i64 start, .int .i64 until_, .int .i64 closes] w (RetB (.bool (spanB start until_ closes)) w) := by
  cases h1 : inB closes 1 999 with
  | false =>
    have HB : Hid (spanB start until_ closes = false) := Lib.hid (by unfold spanB; rw [h1]; rfl)
    go_enter Tryz.func82, Tryz.ntmps82
    go_wp2_with ((go_at_call 75; refine (in1_val _ _ _ _ _ h1).mono ?_; rintro e _ ⟨rfl, k, rfl⟩))
    go_ret
    exact ⟨by rw [HB.out]; rfl, below_drewN (Below.refl _ _) _⟩
  | true =>
    cases h2 : inB until_ 1 1000 with
    | false =>
      have HB : Hid (spanB start until_ closes = false) := Lib.hid (by unfold spanB; rw [h1, h2]; rfl)
      go_enter Tryz.func82, Tryz.ntmps82
      go_wp2_with ((go_at_call 75; refine (in1_val _ _ _ _ _ (by assumption)).mono ?_; rintro e _ ⟨rfl, k, rfl⟩))
      go_ret
      exact ⟨by rw [HB.out]; rfl, below_drewN (Below.refl _ _) _⟩
    | true =>
      have hu := inB_iff.1 h2
      obtain ⟨u1, u2⟩ := hu
      have HB : Hid (spanB start until_ closes = inB start closes (until_ - 1)) := Lib.hid (by unfold spanB; rw [h1, h2]; rfl)
      go_enter Tryz.func82, Tryz.ntmps82
      go_wp2_with (fail)
      refine (in1_val _ _ _ _ _ h1).mono ?_
      rintro e _ ⟨rfl, k1, rfl⟩
      go_wp2_with (fail)
      refine (in1_val _ _ _ _ _ h2).mono ?_
      rintro e _ ⟨rfl, k2, rfl⟩
      go_wp2_with (fail)
      refine (in1_any _ _ _ _).mono ?_
      rintro e _ ⟨rfl, k3, rfl⟩
      go_wp2
      go_ret
      exact ⟨by rw [HB.out]; rfl, below_drewN (Below.refl _ _) _⟩
theorem span1_val (start until_ closes : Int) (w : World) (r : Bool) (hr : spanB start until_ closes = r) :
    Calls Tryz.prog 82 #[.int .i64 start, .int .i64 until_, .int .i64 closes] w (RetB (.bool r) w) := hr ▸ span1_any start until_ closes w
theorem name1_val (s : ByteArray) (w : World) (r : Bool) (hs : s.size ≤ maxLen) (hr : okName s.toList = r) :
    Calls Tryz.prog 81 #[.string s] w (RetQ (.bool r) w) := hr ▸ name1_any s w hs
theorem patch1_val (es : List Edit) (w : World) (v : Value) (r : Bool) (h : Edits w w.heap.size v es) (hs : SizesOk es) (hr : okPatch es = r) :
    Calls Tryz.prog 78 #[v] w (RetB (.bool r) w) := hr ▸ patch1_any es w v h hs
theorem okSpan_span (p : List Edit) (closes start until_ : Int) : okSpan p closes start until_ = (!p.isEmpty && okPatch p && spanB start until_ closes) := by
  have : (inB closes 1 999 && decide (closes ≤ start) && decide (start < until_) && decide (until_ ≤ 1000)) = spanB start until_ closes := by
    rw [Bool.eq_iff_iff]
    unfold spanB
    simp only [Bool.and_eq_true, inB_iff, decide_eq_true_eq]
    omega
  rw [← this]
  unfold okSpan
  simp only [Bool.and_assoc]

theorem len_pos {α : Type} (l : List α) : decide ((0 : Int) < (l.length : Int)) = !l.isEmpty := by
  cases l with
  | nil => rfl
  | cons a l => simp
theorem okDeed_1s {d : Deed} (hk : d.kind = 1) : okDeed d = (inB d.member 0 11 && okTrust d.trust d.member 12 && d.title.toList.isEmpty && (d.vote == 0) && plainB d) := by
  have : decide (d.title.toList = []) = d.title.toList.isEmpty := by cases d.title.toList <;> simp
  rw [okDeed_1 hk, int_zero, this]
theorem okDeed_2s {d : Deed} (hk : d.kind = 2) : okDeed d = (inB d.member 0 11 && ((d.trust.length : Int) == 0) && okName d.title.toList && inB d.vote 0 3 && plainB d) := by
  rw [okDeed_2 hk, len_zero]
  cases inB d.member 0 11 <;> cases okName d.title.toList <;> cases inB d.vote 0 3 <;> cases d.trust.isEmpty <;> cases plainB d <;> rfl
theorem okDeed_3s {d : Deed} (hk : d.kind = 3) : okDeed d = (inB d.member 0 11 && ((d.trust.length : Int) == 0) && okName d.title.toList && (d.vote == 0) && decide ((0 : Int) < (d.patch.length : Int)) && okPatch d.patch && spanB d.start d.until_ d.closes) := by
  rw [okDeed_3 hk, len_zero, len_pos, int_zero, okSpan_span]
  cases inB d.member 0 11 <;> cases okName d.title.toList <;> cases d.trust.isEmpty <;> cases decide (d.vote = 0) <;> cases d.patch.isEmpty <;> cases okPatch d.patch <;> cases spanB d.start d.until_ d.closes <;> rfl
theorem okDeed_4s {d : Deed} (hk : d.kind = 4) : okDeed d = ((d.member == 0) && ((d.trust.length : Int) == 0) && d.title.toList.isEmpty && (d.vote == 0) && plainB d) := by
  have : decide (d.title.toList = []) = d.title.toList.isEmpty := by cases d.title.toList <;> simp
  rw [okDeed_4 hk, len_zero, int_zero, int_zero, this]
end Go.Proofs.YthlfpiflegfoiaaGreatDoor
