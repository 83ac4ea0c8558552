/- The text of a deed, walked: the program's. -/
import Derived.Test.YtmgdodgofpapgaaDoorLawH
import Derived.Deep.RegionHeld3
namespace Go.Proofs.YtmgdodgofpapgaaDoor
open Go.RowKit Go.Lib

def wordV (n : Int) : List UInt8 := if n = 0 then [110, 111, 110, 101] else if n = 1 then [121, 101, 115] else if n = 2 then [110, 111] else [98, 108, 97, 110, 107]
def deedText (d : Deed) : List UInt8 :=
  if d.kind = 1 then (if d.trust = [] then [116, 114, 117, 115, 116, 32] ++ itoa d.member else [116, 114, 117, 115, 116, 32] ++ itoa d.member ++ [32] ++ nums d.trust [44])
  else if d.kind = 2 then [118, 111, 116, 101, 32] ++ itoa d.member ++ [32] ++ d.title.toList ++ [32] ++ wordV d.vote
  else if d.kind = 3 then [112, 114, 111, 112, 111, 115, 101, 32] ++ itoa d.member ++ [32] ++ d.title.toList ++ [32] ++ nums [d.closes, d.start, d.until_] [32] ++ [32] ++ semis (patchText d.patch)
  else [110, 101, 120, 116]
def deedOut (d : Deed) : List UInt8 := if okDeed d = true then deedText d else []
theorem deedOut_no {d : Deed} (h : okDeed d = false) : deedOut d = [] := by unfold deedOut; rw [if_neg (by rw [h]; simp)]
theorem deedOut_ok {d : Deed} (h : okDeed d = true) : deedOut d = deedText d := by unfold deedOut; rw [if_pos h]

theorem cat_op {P : Program} (l r : List UInt8) (hl : l.length ≤ 8388608) (hr : r.length ≤ 8388608) : ∃ T : List UInt8, T = l ++ r ∧ T.length ≤ l.length + r.length ∧ ∀ w, (Op.stringOp .add ⟨l.toArray⟩ ⟨r.toArray⟩).run P w = .ok (.string ⟨T.toArray⟩) w :=
  ⟨_, rfl, by simp, fun w => cat_ll l r hl hr w⟩
theorem cat_opb {P : Program} (l : List UInt8) (b : ByteArray) (hl : l.length ≤ 8388608) (hr : b.toList.length ≤ 8388608) : ∃ T : List UInt8, T = l ++ b.toList ∧ T.length ≤ l.length + b.toList.length ∧ ∀ w, (Op.stringOp .add ⟨l.toArray⟩ b).run P w = .ok (.string ⟨T.toArray⟩) w :=
  ⟨_, rfl, by simp, fun w => cat_lb l b hl hr w⟩

theorem okDeed_kind {d : Deed} (h : okDeed d = true) : (d.kind = 1 ∧ d.trust.length ≤ 4 ∧ (∀ z ∈ d.trust, -9223372036854775808 ≤ z ∧ z ≤ 9223372036854775807)) ∨ (d.kind = 2 ∧ d.title.toList.length ≤ 10 ∧ 0 ≤ d.vote ∧ d.vote ≤ 3) ∨
    (d.kind = 3 ∧ d.title.toList.length ≤ 10 ∧ okPatch d.patch = true ∧ 1 ≤ d.closes ∧ d.closes ≤ 999 ∧ 1 ≤ d.start ∧ d.start ≤ 1000 ∧ 1 ≤ d.until_ ∧ d.until_ ≤ 1000) ∨ (d.kind = 4 ∧ d.member = 0) := by
  by_cases k1 : d.kind = 1
  · left
    rw [okDeed_1 k1] at h
    simp only [Bool.and_eq_true] at h
    have ht := h.1.1.1.2
    rw [okTrust_eq, Bool.and_eq_true, allLt_true] at ht
    refine ⟨k1, of_decide_eq_true ht.2, fun z hz => ?_⟩
    obtain ⟨k, hk⟩ := List.getElem?_of_mem hz
    have := ht.1 k (List.getElem?_eq_some_iff.1 hk).1
    rw [trustAt_eq hk] at this
    simp only [Bool.and_eq_true] at this
    have := inB_iff.1 this.1.1
    omega
  · by_cases k2 : d.kind = 2
    · right; left
      rw [okDeed_2 k2] at h
      simp only [Bool.and_eq_true] at h
      have hv := inB_iff.1 h.1.1.2
      have hn := h.1.1.1.2
      unfold okName at hn
      simp only [Bool.and_eq_true] at hn
      exact ⟨k2, of_decide_eq_true hn.2, hv.1, hv.2⟩
    · by_cases k3 : d.kind = 3
      · right; right; left
        rw [okDeed_3 k3] at h
        simp only [Bool.and_eq_true] at h
        have hn := h.1.1.1.2
        have hs := h.1.1.2
        unfold okName at hn
        unfold okSpan at hs
        simp only [Bool.and_eq_true, decide_eq_true_eq] at hn hs
        have hc := inB_iff.1 hs.1.1.1.2
        exact ⟨k3, hn.2, hs.1.1.1.1.2, hc.1, hc.2, by omega, by omega, by omega, by omega⟩
      · right; right; right
        by_cases k4 : d.kind = 4
        · rw [okDeed_4 k4] at h
          simp only [Bool.and_eq_true, decide_eq_true_eq] at h
          exact ⟨k4, h.1.1.1.1⟩
        · rw [okDeed_0 k1 k2 k3 k4] at h
          cases h
theorem okDeed_member {d : Deed} (h : okDeed d = true) : 0 ≤ d.member ∧ d.member ≤ 11 := by
  by_cases k1 : d.kind = 1
  · rw [okDeed_1 k1] at h
    simp only [Bool.and_eq_true] at h
    exact inB_iff.1 h.1.1.1.1
  · by_cases k2 : d.kind = 2
    · rw [okDeed_2 k2] at h
      simp only [Bool.and_eq_true] at h
      exact inB_iff.1 h.1.1.1.1
    · by_cases k3 : d.kind = 3
      · rw [okDeed_3 k3] at h
        simp only [Bool.and_eq_true] at h
        exact inB_iff.1 h.1.1.1.1
      · have := okDeed_kind h
        omega

theorem keep4 {w X X' : World} {G a b c d : Nat} {v1 v2 v3 v4 : Value} (h : X.cell? ⟨G, a, none⟩ = some v1 ∧ X.cell? ⟨G, b, none⟩ = some v2 ∧ X.cell? ⟨G, c, none⟩ = some v3 ∧ X.cell? ⟨G, d, none⟩ = some v4 ∧ Below w.heap.size w X) (hb : Below X.heap.size X X') :
    X'.cell? ⟨G, a, none⟩ = some v1 ∧ X'.cell? ⟨G, b, none⟩ = some v2 ∧ X'.cell? ⟨G, c, none⟩ = some v3 ∧ X'.cell? ⟨G, d, none⟩ = some v4 ∧ Below w.heap.size w X' := by
  obtain ⟨h1, h2, h3, h4, h5⟩ := h
  have hG : G < X.heap.size := World.block_lt_of_cell? X ⟨G, a, none⟩ h1
  exact ⟨(hb.cell (p := ⟨G, a, none⟩) hG).trans h1, (hb.cell (p := ⟨G, b, none⟩) hG).trans h2, (hb.cell (p := ⟨G, c, none⟩) hG).trans h3, (hb.cell (p := ⟨G, d, none⟩) hG).trans h4, h5.trans (hb.mono h5.size)⟩
theorem and5 {p q r s t : Prop} (h : p ∧ q ∧ r ∧ s ∧ t) : t := h.2.2.2.2
theorem ints3 (Y : World) (a b c : Int) (T : TypeId) : Ints (Y.alloc (.cells #[.int .i64 a, .int .i64 b, .int .i64 c] T)) (Y.alloc (.cells #[.int .i64 a, .int .i64 b, .int .i64 c] T)).heap.size (.slice (some ⟨Y.heap.size, 0, none⟩) 3 3) [a, b, c] := by
  refine ⟨some ⟨Y.heap.size, 0, none⟩, 3, rfl, Nat.le_refl _, by decide, fun _ => ⟨Y.heap.size, 0, rfl, by simp, fun k x hx => ⟨_, rfl, rfl, fun j u hu => ?_⟩⟩⟩
  match k, hx with
  | 0, hx =>
    match j, hu with
    | 0, hu => simp [intCells] at hx hu; subst hx hu; simp [go_sem]
  | 1, hx =>
    match j, hu with
    | 0, hu => simp [intCells] at hx hu; subst hx hu; simp [go_sem]
  | 2, hx =>
    match j, hu with
    | 0, hu => simp [intCells] at hx hu; subst hx hu; simp [go_sem]
theorem ints3d (Y : World) (a b c : Int) (T : TypeId) : Ints (Y.alloc (.cells #[.int .i64 a, .int .i64 b, .int .i64 c] T)).drew (Y.alloc (.cells #[.int .i64 a, .int .i64 b, .int .i64 c] T)).drew.heap.size (.slice (some ⟨Y.heap.size, 0, none⟩) 3 3) [a, b, c] :=
  SlR.on (ints3 Y a b c T) (Pl.stays _) ((Below.refl _ _).drew) (Nat.le_refl _)

end Go.Proofs.YtmgdodgofpapgaaDoor
