/- The text of a deed, walked: the program's. -/
import Derived.Test.YthlfpiflegfoiaaGreatDoorLawH
import Derived.Deep.RegionHeld3
namespace Go.Proofs.YthlfpiflegfoiaaGreatDoor
open Go.RowKit Go.Lib

def wordV (n : Int) : List UInt8 := if n = 0 then [110, 111, 110, 101] else if n = 1 then [121, 101, 115] else if n = 2 then [110, 111] else [98, 108, 97, 110, 107]
def deedText (d : Deed) : List UInt8 :=
  if d.kind = 1 then (if d.trust = [] then [116, 114, 117, 115, 116, 32] ++ itoa d.member else [116, 114, 117, 115, 116, 32] ++ itoa d.member ++ [32] ++ nums d.trust [44])
  else if d.kind = 2 then [118, 111, 116, 101, 32] ++ itoa d.member ++ [32] ++ d.title.toList ++ [32] ++ wordV d.vote
  else if d.kind = 3 then [112, 114, 111, 112, 111, 115, 101, 32] ++ itoa d.member ++ [32] ++ d.title.toList ++ [32] ++ nums [d.closes, d.start, d.until_] [32] ++ [32] ++ semis (patchText d.patch)
  else [110, 101, 120, 116]
def deedOut (d : Deed) : List UInt8 := if okDeed d = true then deedText d else []
theorem deedOut_no {d : Deed} (h : okDeed d = false) : deedOut d = [] := by unfold deedOut; rw [if_neg (by rw [h]; simp)]
theorem deedOut_ok {d : Deed} (h : okDeed d = true) : deedOut d = deedText d := by unfold deedOut; rw [if_pos h]

theorem cat_op {P : Program} (l r : List UInt8) (hl : l.length ≤ 8388608) (hr : r.length ≤ 8388608) : ∃ T : List UInt8, T = l ++ r ∧ T.length ≤ l.length + r.length ∧ ∀ w, (Op.stringOp .add ⟨l.toArray⟩ ⟨r.toArray⟩).run P w = .ok (.string ⟨T.toArray⟩) w :=
  ⟨_, rfl, by simp, fun w => cat_ll l r hl hr w⟩
theorem cat_opb {P : Program} (l : List UInt8) (b : ByteArray) (hl : l.length ≤ 8388608) (hr : b.toList.length ≤ 8388608) : ∃ T : List UInt8, T = l ++ b.toList ∧ T.length ≤ l.length + b.toList.length ∧ ∀ w, (Op.stringOp .add ⟨l.toArray⟩ b).run P w = .ok (.string ⟨T.toArray⟩) w :=
  ⟨_, rfl, by simp, fun w => cat_lb l b hl hr w⟩

theorem words2_any (w : World) : Calls Tryz.prog 44 #[] w (fun e w' => e = .returned (.slice (some ⟨w.heap.size, 0, none⟩) 4 4) ∧ w' = w.alloc (.cells #[.string ⟨#[110, 111, 110, 101]⟩, .string ⟨#[121, 101, 115]⟩, .string ⟨#[110, 111]⟩, .string ⟨#[98, 108, 97, 110, 107]⟩] 9)) := by
  go_enter Tryz.func44, Tryz.ntmps44
  go_wp2
  go_ret
  exact ⟨rfl, rfl⟩

theorem okDeed_kind {d : Deed} (h : okDeed d = true) : (d.kind = 1 ∧ d.trust.length ≤ 4 ∧ (∀ z ∈ d.trust, -9223372036854775808 ≤ z ∧ z ≤ 9223372036854775807)) ∨ (d.kind = 2 ∧ d.title.toList.length ≤ 10 ∧ 0 ≤ d.vote ∧ d.vote ≤ 3) ∨
    (d.kind = 3 ∧ d.title.toList.length ≤ 10 ∧ okPatch d.patch = true ∧ 1 ≤ d.closes ∧ d.closes ≤ 999 ∧ 1 ≤ d.start ∧ d.start ≤ 1000 ∧ 1 ≤ d.until_ ∧ d.until_ ≤ 1000) ∨ (d.kind = 4 ∧ d.member = 0) := by
  by_cases k1 : d.kind = 1
  · left
    rw [okDeed_1 k1] at h
    simp only [Bool.and_eq_true] at h
    have ht := h.1.1.1.2
    rw [okTrust_eq, Bool.and_eq_true, allLt_true] at ht
    refine ⟨k1, of_decide_eq_true ht.2, fun z hz => ?_⟩
    obtain ⟨k, hk⟩ := List.getElem?_of_mem hz
    have := ht.1 k (List.getElem?_eq_some_iff.1 hk).1
    rw [trustAt_eq hk] at this
    simp only [Bool.and_eq_true] at this
    have := inB_iff.1 this.1.1
    omega
  · by_cases k2 : d.kind = 2
    · right; left
      rw [okDeed_2 k2] at h
      simp only [Bool.and_eq_true] at h
      have hv := inB_iff.1 h.1.1.2
      have hn := h.1.1.1.2
      unfold okName at hn
      simp only [Bool.and_eq_true] at hn
      exact ⟨k2, of_decide_eq_true hn.2, hv.1, hv.2⟩
    · by_cases k3 : d.kind = 3
      · right; right; left
        rw [okDeed_3 k3] at h
        simp only [Bool.and_eq_true] at h
        have hn := h.1.1.1.2
        have hs := h.1.1.2
        unfold okName at hn
        unfold okSpan at hs
        simp only [Bool.and_eq_true, decide_eq_true_eq] at hn hs
        have hc := inB_iff.1 hs.1.1.1.2
        exact ⟨k3, hn.2, hs.1.1.1.1.2, hc.1, hc.2, by omega, by omega, by omega, by omega⟩
      · right; right; right
        by_cases k4 : d.kind = 4
        · rw [okDeed_4 k4] at h
          simp only [Bool.and_eq_true, decide_eq_true_eq] at h
          exact ⟨k4, h.1.1.1.1⟩
        · rw [okDeed_0 k1 k2 k3 k4] at h
          cases h
theorem okDeed_member {d : Deed} (h : okDeed d = true) : 0 ≤ d.member ∧ d.member ≤ 11 := by
  by_cases k1 : d.kind = 1
  · rw [okDeed_1 k1] at h
    simp only [Bool.and_eq_true] at h
    exact inB_iff.1 h.1.1.1.1
  · by_cases k2 : d.kind = 2
    · rw [okDeed_2 k2] at h
      simp only [Bool.and_eq_true] at h
      exact inB_iff.1 h.1.1.1.1
    · by_cases k3 : d.kind = 3
      · rw [okDeed_3 k3] at h
        simp only [Bool.and_eq_true] at h
        exact inB_iff.1 h.1.1.1.1
      · have := okDeed_kind h
        omega

theorem keep4 {w X X' : World} {G a b c d : Nat} {v1 v2 v3 v4 : Value} (h : X.cell? ⟨G, a, none⟩ = some v1 ∧ X.cell? ⟨G, b, none⟩ = some v2 ∧ X.cell? ⟨G, c, none⟩ = some v3 ∧ X.cell? ⟨G, d, none⟩ = some v4 ∧ Below w.heap.size w X) (hb : Below X.heap.size X X') :
    X'.cell? ⟨G, a, none⟩ = some v1 ∧ X'.cell? ⟨G, b, none⟩ = some v2 ∧ X'.cell? ⟨G, c, none⟩ = some v3 ∧ X'.cell? ⟨G, d, none⟩ = some v4 ∧ Below w.heap.size w X' := by
  obtain ⟨h1, h2, h3, h4, h5⟩ := h
  have hG : G < X.heap.size := World.block_lt_of_cell? X ⟨G, a, none⟩ h1
  exact ⟨(hb.cell (p := ⟨G, a, none⟩) hG).trans h1, (hb.cell (p := ⟨G, b, none⟩) hG).trans h2, (hb.cell (p := ⟨G, c, none⟩) hG).trans h3, (hb.cell (p := ⟨G, d, none⟩) hG).trans h4, h5.trans (hb.mono h5.size)⟩
theorem and5 {p q r s t : Prop} (h : p ∧ q ∧ r ∧ s ∧ t) : t := h.2.2.2.2
theorem ints3 (Y : World) (a b c : Int) (T : TypeId) : Ints (Y.alloc (.cells #[.int .i64 a, .int .i64 b, .int .i64 c] T)) (Y.alloc (.cells #[.int .i64 a, .int .i64 b, .int .i64 c] T)).heap.size (.slice (some ⟨Y.heap.size, 0, none⟩) 3 3) [a, b, c] := by
  refine ⟨some ⟨Y.heap.size, 0, none⟩, 3, rfl, Nat.le_refl _, by decide, fun _ => ⟨Y.heap.size, 0, rfl, by simp, fun k x hx => ⟨_, rfl, rfl, fun j u hu => ?_⟩⟩⟩
  match k, hx with
  | 0, hx =>
    match j, hu with
    | 0, hu => simp [intCells] at hx hu; subst hx hu; simp [go_sem]
  | 1, hx =>
    match j, hu with
    | 0, hu => simp [intCells] at hx hu; subst hx hu; simp [go_sem]
  | 2, hx =>
    match j, hu with
    | 0, hu => simp [intCells] at hx hu; subst hx hu; simp [go_sem]
theorem ints3d (Y : World) (a b c : Int) (T : TypeId) : Ints (Y.alloc (.cells #[.int .i64 a, .int .i64 b, .int .i64 c] T)).drew (Y.alloc (.cells #[.int .i64 a, .int .i64 b, .int .i64 c] T)).drew.heap.size (.slice (some ⟨Y.heap.size, 0, none⟩) 3 3) [a, b, c] :=
  SlR.on (ints3 Y a b c T) (Pl.stays _) ((Below.refl _ _).drew) (Nat.le_refl _)

set_option maxRecDepth 100000 in
set_option maxHeartbeats 4000000 in
theorem deedText2_any (d : Deed) (A1 : Option Addr) (c1 : Nat) (A2 : Option Addr) (c2 : Nat) (w : World) (hT : Ints w w.heap.size (.slice A1 d.trust.length c1) d.trust) (hP : Edits w w.heap.size (.slice A2 d.patch.length c2) d.patch) (hs : SizesOk d.patch) (ht : d.title.size ≤ maxLen) (hE : Env w.heap.size w) :
    Calls Tryz.prog 27 #[.agg #[.int .i64 d.kind, .int .i64 d.member, .slice A1 d.trust.length c1, .string d.title, .int .i64 d.vote, .slice A2 d.patch.length c2, .int .i64 d.start, .int .i64 d.until_, .int .i64 d.closes]] w (RetB (.tuple #[.string ⟨(deedOut d).toArray⟩, .bool (okDeed d)]) w) := by
  have HT := Lib.hid hT
  have HP := Lib.hid hP
  have HS := Lib.hid hs
  have HTI := Lib.hid ht
  have E := Lib.hid hE
  clear hT hP hs ht hE
  go_enter Tryz.func27, Tryz.ntmps27
  go_upto_region 1 with (fail)
  obtain ⟨W, hW⟩ : ∃ W : World, W = w.alloc (.cells #[.int .i64 d.kind, .int .i64 d.member, .slice A1 d.trust.length c1, .string d.title, .int .i64 d.vote, .slice A2 d.patch.length c2, .int .i64 d.start, .int .i64 d.until_, .int .i64 d.closes] 39) := ⟨_, rfl⟩
  have bW : Below w.heap.size w W := by rw [hW]; exact (Below.refl _ _).alloc (Nat.le_refl _) _
  have y0 : W.cell? ⟨w.heap.size, 0, none⟩ = some (.int .i64 d.kind) := by rw [hW]; simp [go_sem]
  have y1 : W.cell? ⟨w.heap.size, 1, none⟩ = some (.int .i64 d.member) := by rw [hW]; simp [go_sem]
  have y2 : W.cell? ⟨w.heap.size, 2, none⟩ = some (.slice A1 d.trust.length c1) := by rw [hW]; simp [go_sem]
  have y3 : W.cell? ⟨w.heap.size, 3, none⟩ = some (.string d.title) := by rw [hW]; simp [go_sem]
  have y4 : W.cell? ⟨w.heap.size, 4, none⟩ = some (.int .i64 d.vote) := by rw [hW]; simp [go_sem]
  have y5 : W.cell? ⟨w.heap.size, 5, none⟩ = some (.slice A2 d.patch.length c2) := by rw [hW]; simp [go_sem]
  have y6 : W.cell? ⟨w.heap.size, 6, none⟩ = some (.int .i64 d.start) := by rw [hW]; simp [go_sem]
  have y7 : W.cell? ⟨w.heap.size, 7, none⟩ = some (.int .i64 d.until_) := by rw [hW]; simp [go_sem]
  have y8 : W.cell? ⟨w.heap.size, 8, none⟩ = some (.int .i64 d.closes) := by rw [hW]; simp [go_sem]
  rw [← hW]
  clear hW
  have HT' := Lib.hid (fun (x : World) (hx : Below w.heap.size w x) => SlR.on HT.out (Pl.stays _) hx hx.size)
  have HP' := Lib.hid (fun (x : World) (hx : Below w.heap.size w x) => SlR.on HP.out (Pl.stays _) hx hx.size)
  have HC := Lib.hid (fun (x : World) (hx : Below W.heap.size W x) (j : Nat) (v : Value) (h : W.cell? ⟨w.heap.size, j, none⟩ = some v) => (hx.cell (p := ⟨w.heap.size, j, none⟩) (World.block_lt_of_cell? W ⟨w.heap.size, j, none⟩ h)).trans h)
  have Y := Lib.hid (And.intro y0 (And.intro y1 (And.intro y2 (And.intro y3 (And.intro y4 (And.intro y5 (And.intro y6 (And.intro y7 y8))))))))
  go_wp2_with (fail)
  clear y1 y2 y3 y4 y5 y6 y7 y8
  refine (deed2_any d A1 c1 A2 c2 _ (HT'.out W bW) (HP'.out W bW) HS.out HTI.out).mono ?_
  rintro e w1 ⟨rfl, hb1⟩
  have hbw1 := bW.trans (hb1.mono bW.size)
  cases hok : okDeed d with
  | false =>
    have HO := Lib.hid hok
    clear hok
    go_wp2
    go_ret2
    exact ⟨by rw [deedOut_no HO.out, HO.out]; rfl, hbw1⟩
  | true =>
    have HO := Lib.hid hok
    have hm := okDeed_member hok
    obtain ⟨hm1, hm2⟩ := hm
    have il := itoa_length_le d.member (by omega) (by omega)
    clear hok
    have u1 := HC.out w1 hb1 1 _ Y.out.2.1
    go_wp2_with (fail)
    refine (decimal_any w.heap.size d.member _ (E.out.on hbw1) (by omega) (by omega)).mono ?_
    rintro e w2 ⟨rfl, hb2⟩
    clear u1 y0
    have hb12 := hb1.trans (hb2.mono hb1.size)
    have hbw2 := bW.trans (hb12.mono bW.size)
    clear hb1 hb2 hbw1
    have u0 := HC.out w2 hb12 0 _ Y.out.1
    rcases okDeed_kind HO.out with ⟨k1, t1, t2⟩ | ⟨k2, t1, v1, v2⟩ | ⟨k3, t1, op, p1, p2, p3, p4, p5, p6⟩ | ⟨k4, m0⟩
    · have HD : Hid (deedText d = if d.trust = [] then [116, 114, 117, 115, 116, 32] ++ itoa d.member else [116, 114, 117, 115, 116, 32] ++ itoa d.member ++ [32] ++ nums d.trust [44]) := Lib.hid (by unfold deedText; rw [if_pos k1])
      have b1 : (d.kind == 1) = true := by simp [k1]
      have HZ := Lib.hid t2
      clear k1 t2
      have u2 := HC.out w2 hb12 2 _ Y.out.2.2.1
      obtain ⟨T1, e1, n1, q1⟩ := cat_op (P := Tryz.prog) [116, 114, 117, 115, 116, 32] (itoa d.member) (by simp) (by omega)
      have E1 := Lib.hid e1
      clear e1
      simp only [List.length_cons, List.length_nil] at n1
      by_cases h0 : d.trust = []
      · have b2 : ((d.trust.length : Int) == 0) = true := by simp [h0]
        have HE : Hid (deedText d = T1) := Lib.hid (by rw [HD.out, if_pos h0, E1.out])
        clear h0
        go_wp2
        go_ret2
        exact ⟨by rw [deedOut_ok HO.out, HO.out, HE.out]; rfl, hbw2⟩
      · have b2 : ((d.trust.length : Int) == 0) = false := by simp [h0]
        obtain ⟨T2, e2, n2, q2⟩ := cat_op (P := Tryz.prog) T1 [32] (by omega) (by simp)
        have E2 := Lib.hid e2
        have hnl := nums_len d.trust [44] (by simp) HZ.out
        obtain ⟨T3, e3, n3, q3⟩ := cat_op (P := Tryz.prog) T2 (nums d.trust [44]) (by simp at n2; omega) (by omega)
        have HE : Hid (deedText d = T3) := Lib.hid (by rw [HD.out, if_neg h0, e3, e2, E1.out])
        clear h0 e2 e3
        go_wp2_with (fail)
        refine (decimals_any d.trust ⟨#[44]⟩ _ _ (HT'.out _ hbw2) (by omega) (by simp) HZ.out (env_more (E.out.on hbw2) hbw2.size)).mono ?_
        rintro e w3 ⟨rfl, hb3⟩
        go_wp2
        go_ret2
        exact ⟨by rw [deedOut_ok HO.out, HO.out, HE.out]; rfl, hbw2.trans (hb3.mono hbw2.size)⟩
    · have b1 : (d.kind == 1) = false := by simp [k2]
      have b2 : (d.kind == 2) = true := by simp [k2]
      have HD : Hid (deedText d = [118, 111, 116, 101, 32] ++ itoa d.member ++ [32] ++ d.title.toList ++ [32] ++ wordV d.vote) := Lib.hid (by unfold deedText; rw [if_neg (by omega), if_pos k2])
      clear k2
      have u3 := HC.out w2 hb12 3 _ Y.out.2.2.2.1
      have u4 := HC.out w2 hb12 4 _ Y.out.2.2.2.2.1
      have hg2 : w.heap.size < w2.heap.size := World.block_lt_of_cell? w2 ⟨w.heap.size, 3, none⟩ u3
      obtain ⟨T1, e1, n1, q1⟩ := cat_op (P := Tryz.prog) [118, 111, 116, 101, 32] (itoa d.member) (by simp) (by omega)
      simp only [List.length_cons, List.length_nil] at n1
      obtain ⟨T2, e2, n2, q2⟩ := cat_op (P := Tryz.prog) T1 [32] (by omega) (by simp)
      simp only [List.length_cons, List.length_nil] at n2
      obtain ⟨T3, e3, n3, q3⟩ := cat_opb (P := Tryz.prog) T2 d.title (by omega) (by omega)
      obtain ⟨T4, e4, n4, q4⟩ := cat_op (P := Tryz.prog) T3 [32] (by omega) (by simp)
      simp only [List.length_cons, List.length_nil] at n4
      have HE : Hid (deedText d = T4 ++ wordV d.vote) := Lib.hid (by rw [HD.out, e4, e3, e2, e1])
      clear e1 e2 e3 e4
      have hv4 : d.vote = 0 ∨ d.vote = 1 ∨ d.vote = 2 ∨ d.vote = 3 := by omega
      clear v1 v2
      rcases hv4 with hv | hv | hv | hv
      · rw [hv] at u4
        obtain ⟨T5, e5, n5, q5⟩ := cat_op (P := Tryz.prog) T4 [110, 111, 110, 101] (by omega) (by simp)
        have HF : Hid (deedText d = T5) := Lib.hid (by rw [HE.out, e5, hv]; rfl)
        clear e5 hv
        go_upto_region 10 with (fail)
        go_region_with (first | (go_at_call 44; refine (words2_any _).mono ?_; rintro e w' ⟨rfl, rfl⟩))
        all_goals
          go_wp2
          go_ret2
          exact ⟨by rw [deedOut_ok HO.out, HO.out, HF.out]; rfl, hbw2.drew.alloc hbw2.size _⟩
      · rw [hv] at u4
        obtain ⟨T5, e5, n5, q5⟩ := cat_op (P := Tryz.prog) T4 [121, 101, 115] (by omega) (by simp)
        have HF : Hid (deedText d = T5) := Lib.hid (by rw [HE.out, e5, hv]; rfl)
        clear e5 hv
        go_upto_region 10 with (fail)
        go_region_with (first | (go_at_call 44; refine (words2_any _).mono ?_; rintro e w' ⟨rfl, rfl⟩))
        all_goals
          go_wp2
          go_ret2
          exact ⟨by rw [deedOut_ok HO.out, HO.out, HF.out]; rfl, hbw2.drew.alloc hbw2.size _⟩
      · rw [hv] at u4
        obtain ⟨T5, e5, n5, q5⟩ := cat_op (P := Tryz.prog) T4 [110, 111] (by omega) (by simp)
        have HF : Hid (deedText d = T5) := Lib.hid (by rw [HE.out, e5, hv]; rfl)
        clear e5 hv
        go_upto_region 10 with (fail)
        go_region_with (first | (go_at_call 44; refine (words2_any _).mono ?_; rintro e w' ⟨rfl, rfl⟩))
        all_goals
          go_wp2
          go_ret2
          exact ⟨by rw [deedOut_ok HO.out, HO.out, HF.out]; rfl, hbw2.drew.alloc hbw2.size _⟩
      · rw [hv] at u4
        obtain ⟨T5, e5, n5, q5⟩ := cat_op (P := Tryz.prog) T4 [98, 108, 97, 110, 107] (by omega) (by simp)
        have HF : Hid (deedText d = T5) := Lib.hid (by rw [HE.out, e5, hv]; rfl)
        clear e5 hv
        go_upto_region 10 with (fail)
        go_region_with (first | (go_at_call 44; refine (words2_any _).mono ?_; rintro e w' ⟨rfl, rfl⟩))
        all_goals
          go_wp2
          go_ret2
          exact ⟨by rw [deedOut_ok HO.out, HO.out, HF.out]; rfl, hbw2.drew.alloc hbw2.size _⟩
    · have b1 : (d.kind == 1) = false := by simp [k3]
      have b2 : (d.kind == 2) = false := by simp [k3]
      have b3 : (d.kind == 3) = true := by simp [k3]
      have HD : Hid (deedText d = [112, 114, 111, 112, 111, 115, 101, 32] ++ itoa d.member ++ [32] ++ d.title.toList ++ [32] ++ nums [d.closes, d.start, d.until_] [32] ++ [32] ++ semis (patchText d.patch)) := Lib.hid (by unfold deedText; rw [if_neg (by omega), if_neg (by omega), if_pos k3])
      have u5 := HC.out w2 hb12 5 _ Y.out.2.2.2.2.2.1
      have HOP := Lib.hid op
      clear k3 op
      go_upto_region 12 with (fail)
      go_wp2_with (fail)
      refine (patchText2_any d.patch _ _ (HP'.out _ hbw2) HS.out (env_more (E.out.on hbw2) hbw2.size)).mono ?_
      rintro e w3 ⟨rfl, hb3⟩
      have hb13 := hb12.trans (hb3.mono hb12.size)
      have hbw3 := bW.trans (hb13.mono bW.size)
      rw [patchOut_ok HOP.out]
      clear hb12 hbw2 hb3 u0 u5
      have hpl : (patchText d.patch).length ≤ 1280 := by
        have h1 := patchText_take HOP.out d.patch.length
        have h2 := okPatch_len HOP.out
        rw [List.take_length] at h1
        omega
      have hsl : (semis (patchText d.patch)).length ≤ 1280 := by unfold semis; rw [List.length_map]; exact hpl
      have hZ : ∀ z ∈ [d.closes, d.start, d.until_], -9223372036854775808 ≤ z ∧ z ≤ 9223372036854775807 := by
        intro z hz
        simp only [List.mem_cons, List.not_mem_nil, or_false] at hz
        omega
      have hnl := nums_len [d.closes, d.start, d.until_] [32] (by simp) hZ
      have HZ := Lib.hid hZ
      clear p1 p2 p3 p4 p5 p6 hZ
      simp only [List.length_cons, List.length_nil] at hnl
      have u3 := HC.out w3 hb13 3 _ Y.out.2.2.2.1
      have u6 := HC.out w3 hb13 6 _ Y.out.2.2.2.2.2.2.1
      have u7 := HC.out w3 hb13 7 _ Y.out.2.2.2.2.2.2.2.1
      have u8 := HC.out w3 hb13 8 _ Y.out.2.2.2.2.2.2.2.2
      have hg3 : w.heap.size < w3.heap.size := World.block_lt_of_cell? w3 ⟨w.heap.size, 3, none⟩ u3
      generalize hPT : patchText d.patch = PT at *
      have HPT := Lib.hid hPT
      clear hPT
      obtain ⟨T1, e1, n1, q1⟩ := cat_op (P := Tryz.prog) [112, 114, 111, 112, 111, 115, 101, 32] (itoa d.member) (by simp) (by omega)
      simp only [List.length_cons, List.length_nil] at n1
      obtain ⟨T2, e2, n2, q2⟩ := cat_op (P := Tryz.prog) T1 [32] (by omega) (by simp)
      simp only [List.length_cons, List.length_nil] at n2
      obtain ⟨T3, e3, n3, q3⟩ := cat_opb (P := Tryz.prog) T2 d.title (by omega) (by omega)
      obtain ⟨T4, e4, n4, q4⟩ := cat_op (P := Tryz.prog) T3 [32] (by omega) (by simp)
      simp only [List.length_cons, List.length_nil] at n4
      obtain ⟨T5, e5, n5, q5⟩ := cat_op (P := Tryz.prog) T4 (nums [d.closes, d.start, d.until_] [32]) (by omega) (by omega)
      obtain ⟨T6, e6, n6, q6⟩ := cat_op (P := Tryz.prog) T5 [32] (by omega) (by simp)
      simp only [List.length_cons, List.length_nil] at n6
      obtain ⟨T7, e7, n7, q7⟩ := cat_op (P := Tryz.prog) T6 (semis PT) (by omega) (by omega)
      have HE : Hid (deedText d = T7) := Lib.hid (by rw [HD.out, e7, e6, e5, e4, e3, e2, e1])
      clear e1 e2 e3 e4 e5 e6 e7
      go_upto_region 13 with (fail)
      go_region_held3 (fun w' => w'.cell? ⟨w.heap.size, 3, none⟩ = some (.string d.title) ∧ w'.cell? ⟨w.heap.size, 6, none⟩ = some (.int .i64 d.start) ∧ w'.cell? ⟨w.heap.size, 7, none⟩ = some (.int .i64 d.until_) ∧ w'.cell? ⟨w.heap.size, 8, none⟩ = some (.int .i64 d.closes) ∧ Below w.heap.size w w')
        (first | exact ⟨u3, u6, u7, u8, hbw3.drew⟩ | exact ⟨u3, u6, u7, u8, hbw3⟩ | exact keep4 (by assumption) (by assumption) | exact keep4 (by assumption) ((Below.refl _ _).drew) | exact keep4 (by assumption) ((Below.refl _ _).alloc (Nat.le_refl _) _) | exact keep4 (by assumption) (((Below.refl _ _).alloc (Nat.le_refl _) _).drew) | exact keep4 ⟨u3, u6, u7, u8, hbw3⟩ (((Below.refl _ _).alloc (Nat.le_refl _) _).drew))
        (first | (go_at_call 46; refine (E.out.rep _ (and5 (by assumption)) _ (by omega)).mono ?_; rintro e w' ⟨rfl, hb⟩) | (go_at_call 43; refine (decimals_any [d.closes, d.start, d.until_] ⟨#[32]⟩ _ _ (by first | exact ints3 _ _ _ _ _ | exact ints3d _ _ _ _ _ | exact SlR.on (ints3d _ _ _ _ _) (Pl.stays _) (by assumption) (Below.size (by assumption))) (by simp) (by simp) HZ.out (env_more (E.out.on (and5 (by assumption))) (Below.size (and5 (by assumption))))).mono ?_; rintro e w' ⟨rfl, hb⟩))
      all_goals
        go_wp2
        go_ret2
        exact ⟨by rw [deedOut_ok HO.out, HO.out, HE.out]; rfl, by first | exact and5 (by assumption) | exact and5 (keep4 (by assumption) (by assumption))⟩
    · have b1 : (d.kind == 1) = false := by simp [k4]
      have b2 : (d.kind == 2) = false := by simp [k4]
      have b3 : (d.kind == 3) = false := by simp [k4]
      have HE : Hid (deedText d = [110, 101, 120, 116]) := Lib.hid (by unfold deedText; rw [if_neg (by omega), if_neg (by omega), if_neg (by omega)])
      clear k4 m0
      go_wp2
      go_ret2
      exact ⟨by rw [deedOut_ok HO.out, HO.out, HE.out]; rfl, hbw2⟩
end Go.Proofs.YthlfpiflegfoiaaGreatDoor
