/- The text of a deed, walked: the program's. What a text is the text of: the readers as plain functions; numbers, parts, lines. No program here. Numbers as texts, walked: the reference's. (Under way.) -/
import Derived.Test.YtlbnebmdolnagaaQA
import Derived.Deep.RegionHeld3
import Derived.Lib.Split
namespace Go.Proofs.Ytlbnebmdolnagaa
open Go.RowKit Go.Lib

def wordV (n : Int) : List UInt8 := if n = 0 then [110, 111, 110, 101] else if n = 1 then [121, 101, 115] else if n = 2 then [110, 111] else [98, 108, 97, 110, 107]
def deedText (d : Deed) : List UInt8 :=
  if d.kind = 1 then (if d.trust = [] then [116, 114, 117, 115, 116, 32] ++ itoa d.member else [116, 114, 117, 115, 116, 32] ++ itoa d.member ++ [32] ++ nums d.trust [44])
  else if d.kind = 2 then [118, 111, 116, 101, 32] ++ itoa d.member ++ [32] ++ d.title.toList ++ [32] ++ wordV d.vote
  else if d.kind = 3 then [112, 114, 111, 112, 111, 115, 101, 32] ++ itoa d.member ++ [32] ++ d.title.toList ++ [32] ++ nums [d.closes, d.start, d.until_] [32] ++ [32] ++ semis (patchText d.patch)
  else [110, 101, 120, 116]
def deedOut (d : Deed) : List UInt8 := if okDeed d = true then deedText d else []
theorem deedOut_no {d : Deed} (h : okDeed d = false) : deedOut d = [] := by unfold deedOut; rw [if_neg (by rw [h]; simp)]
theorem deedOut_ok {d : Deed} (h : okDeed d = true) : deedOut d = deedText d := by unfold deedOut; rw [if_pos h]

theorem cat_op {P : Program} (l r : List UInt8) (hl : l.length ≤ 8388608) (hr : r.length ≤ 8388608) : ∃ T : List UInt8, T = l ++ r ∧ T.length ≤ l.length + r.length ∧ ∀ w, (Op.stringOp .add ⟨l.toArray⟩ ⟨r.toArray⟩).run P w = .ok (.string ⟨T.toArray⟩) w :=
  ⟨_, rfl, by simp, fun w => cat_ll l r hl hr w⟩
theorem cat_opb {P : Program} (l : List UInt8) (b : ByteArray) (hl : l.length ≤ 8388608) (hr : b.toList.length ≤ 8388608) : ∃ T : List UInt8, T = l ++ b.toList ∧ T.length ≤ l.length + b.toList.length ∧ ∀ w, (Op.stringOp .add ⟨l.toArray⟩ b).run P w = .ok (.string ⟨T.toArray⟩) w :=
  ⟨_, rfl, by simp, fun w => cat_lb l b hl hr w⟩

theorem okDeed_kind {d : Deed} (h : okDeed d = true) : (d.kind = 1 ∧ d.trust.length ≤ 4 ∧ (∀ z ∈ d.trust, -9223372036854775808 ≤ z ∧ z ≤ 9223372036854775807)) ∨ (d.kind = 2 ∧ d.title.toList.length ≤ 10 ∧ 0 ≤ d.vote ∧ d.vote ≤ 3) ∨
    (d.kind = 3 ∧ d.title.toList.length ≤ 10 ∧ okPatch d.patch = true ∧ 1 ≤ d.closes ∧ d.closes ≤ 999 ∧ 1 ≤ d.start ∧ d.start ≤ 1000 ∧ 1 ≤ d.until_ ∧ d.until_ ≤ 1000) ∨ (d.kind = 4 ∧ d.member = 0) := by
  by_cases k1 : d.kind = 1
  · left
    rw [okDeed_1 k1] at h
    simp only [Bool.and_eq_true] at h
    have ht := h.1.1.1.2
    rw [okTrust_eq, Bool.and_eq_true, allLt_true] at ht
    refine ⟨k1, of_decide_eq_true ht.2, fun z hz => ?_⟩
    obtain ⟨k, hk⟩ := List.getElem?_of_mem hz
    have := ht.1 k (List.getElem?_eq_some_iff.1 hk).1
    rw [trustAt_eq hk] at this
    simp only [Bool.and_eq_true] at this
    have := inB_iff.1 this.1.1
    omega
  · by_cases k2 : d.kind = 2
    · right; left
      rw [okDeed_2 k2] at h
      simp only [Bool.and_eq_true] at h
      have hv := inB_iff.1 h.1.1.2
      have hn := h.1.1.1.2
      unfold okName at hn
      simp only [Bool.and_eq_true] at hn
      exact ⟨k2, of_decide_eq_true hn.2, hv.1, hv.2⟩
    · by_cases k3 : d.kind = 3
      · right; right; left
        rw [okDeed_3 k3] at h
        simp only [Bool.and_eq_true] at h
        have hn := h.1.1.1.2
        have hs := h.1.1.2
        unfold okName at hn
        unfold okSpan at hs
        simp only [Bool.and_eq_true, decide_eq_true_eq] at hn hs
        have hc := inB_iff.1 hs.1.1.1.2
        exact ⟨k3, hn.2, hs.1.1.1.1.2, hc.1, hc.2, by omega, by omega, by omega, by omega⟩
      · right; right; right
        by_cases k4 : d.kind = 4
        · rw [okDeed_4 k4] at h
          simp only [Bool.and_eq_true, decide_eq_true_eq] at h
          exact ⟨k4, h.1.1.1.1⟩
        · rw [okDeed_0 k1 k2 k3 k4] at h
          cases h
theorem okDeed_member {d : Deed} (h : okDeed d = true) : 0 ≤ d.member ∧ d.member ≤ 11 := by
  by_cases k1 : d.kind = 1
  · rw [okDeed_1 k1] at h
    simp only [Bool.and_eq_true] at h
    exact inB_iff.1 h.1.1.1.1
  · by_cases k2 : d.kind = 2
    · rw [okDeed_2 k2] at h
      simp only [Bool.and_eq_true] at h
      exact inB_iff.1 h.1.1.1.1
    · by_cases k3 : d.kind = 3
      · rw [okDeed_3 k3] at h
        simp only [Bool.and_eq_true] at h
        exact inB_iff.1 h.1.1.1.1
      · have := okDeed_kind h
        omega

theorem keep4 {w X X' : World} {G a b c d : Nat} {v1 v2 v3 v4 : Value} (h : X.cell? ⟨G, a, none⟩ = some v1 ∧ X.cell? ⟨G, b, none⟩ = some v2 ∧ X.cell? ⟨G, c, none⟩ = some v3 ∧ X.cell? ⟨G, d, none⟩ = some v4 ∧ Below w.heap.size w X) (hb : Below X.heap.size X X') :
    X'.cell? ⟨G, a, none⟩ = some v1 ∧ X'.cell? ⟨G, b, none⟩ = some v2 ∧ X'.cell? ⟨G, c, none⟩ = some v3 ∧ X'.cell? ⟨G, d, none⟩ = some v4 ∧ Below w.heap.size w X' := by
  obtain ⟨h1, h2, h3, h4, h5⟩ := h
  have hG : G < X.heap.size := World.block_lt_of_cell? X ⟨G, a, none⟩ h1
  exact ⟨(hb.cell (p := ⟨G, a, none⟩) hG).trans h1, (hb.cell (p := ⟨G, b, none⟩) hG).trans h2, (hb.cell (p := ⟨G, c, none⟩) hG).trans h3, (hb.cell (p := ⟨G, d, none⟩) hG).trans h4, h5.trans (hb.mono h5.size)⟩
theorem and5 {p q r s t : Prop} (h : p ∧ q ∧ r ∧ s ∧ t) : t := h.2.2.2.2
theorem ints3 (Y : World) (a b c : Int) (T : TypeId) : Ints (Y.alloc (.cells #[.int .i64 a, .int .i64 b, .int .i64 c] T)) (Y.alloc (.cells #[.int .i64 a, .int .i64 b, .int .i64 c] T)).heap.size (.slice (some ⟨Y.heap.size, 0, none⟩) 3 3) [a, b, c] := by
  refine ⟨some ⟨Y.heap.size, 0, none⟩, 3, rfl, Nat.le_refl _, by decide, fun _ => ⟨Y.heap.size, 0, rfl, by simp, fun k x hx => ⟨_, rfl, rfl, fun j u hu => ?_⟩⟩⟩
  match k, hx with
  | 0, hx =>
    match j, hu with
    | 0, hu => simp [intCells] at hx hu; subst hx hu; simp [go_sem]
  | 1, hx =>
    match j, hu with
    | 0, hu => simp [intCells] at hx hu; subst hx hu; simp [go_sem]
  | 2, hx =>
    match j, hu with
    | 0, hu => simp [intCells] at hx hu; subst hx hu; simp [go_sem]
theorem ints3d (Y : World) (a b c : Int) (T : TypeId) : Ints (Y.alloc (.cells #[.int .i64 a, .int .i64 b, .int .i64 c] T)).drew (Y.alloc (.cells #[.int .i64 a, .int .i64 b, .int .i64 c] T)).drew.heap.size (.slice (some ⟨Y.heap.size, 0, none⟩) 3 3) [a, b, c] :=
  SlR.on (ints3 Y a b c T) (Pl.stays _) ((Below.refl _ _).drew) (Nat.le_refl _)

end Go.Proofs.Ytlbnebmdolnagaa

namespace Go.Proofs.Ytlbnebmdolnagaa
open Go.RowKit Go.Lib

/-- The one value of a kind whose text this is, if there is one. -/
noncomputable def inv {α : Type} (ok : α → Bool) (f : α → List UInt8) (t : List UInt8) : Option α :=
  open Classical in if h : ∃ x, ok x = true ∧ f x = t then some (Classical.choose h) else none
theorem inv_some {α : Type} {ok : α → Bool} {f : α → List UInt8} {t : List UInt8} {x : α} (h : inv ok f t = some x) : ok x = true ∧ f x = t := by
  unfold inv at h
  split at h
  · rename_i hx
    injection h with h
    subst h
    exact Classical.choose_spec hx
  · cases h
theorem inv_of {α : Type} {ok : α → Bool} {f : α → List UInt8} {t : List UInt8} {x : α} (hu : ∀ q, ok q = true → f q = t → x = q) (h1 : ok x = true) (h2 : f x = t) : inv ok f t = some x := by
  unfold inv
  have hx : ∃ x, ok x = true ∧ f x = t := ⟨x, h1, h2⟩
  rw [dif_pos hx]
  congr 1
  exact (hu _ (Classical.choose_spec hx).1 (Classical.choose_spec hx).2).symm
theorem inv_no {α : Type} {ok : α → Bool} {f : α → List UInt8} {t : List UInt8} {x : α} (hu : ∀ q, ok q = true → f q = t → x = q) (h : ¬ (ok x = true ∧ f x = t)) : inv ok f t = none := by
  unfold inv
  rw [dif_neg]
  rintro ⟨q, h1, h2⟩
  have := hu q h1 h2
  subst this
  exact h ⟨h1, h2⟩

noncomputable def numOf (lo hi : Int) (t : List UInt8) : Option Int := inv (fun z => inB z lo hi) itoa t
theorem numOf_uniq {lo hi z : Int} {t : List UInt8} (hl : -9223372036854775808 ≤ lo) (hh : hi ≤ 9223372036854775807) (h1 : lo ≤ z) (h2 : z ≤ hi) (ht : itoa z = t) : ∀ q, inB q lo hi = true → itoa q = t → z = q := by
  intro q hq e
  rw [inB_iff] at hq
  exact itoa_inj (by omega) (by omega) (by omega) (by omega) (ht.trans e.symm)
theorem numOf_of {lo hi z : Int} {t : List UInt8} (hl : -9223372036854775808 ≤ lo) (hh : hi ≤ 9223372036854775807) (h1 : lo ≤ z) (h2 : z ≤ hi) (ht : itoa z = t) : numOf lo hi t = some z :=
  inv_of (numOf_uniq hl hh h1 h2 ht) (inB_true h1 h2) ht
theorem numOf_bd {lo hi z : Int} {t : List UInt8} (h : numOf lo hi t = some z) : lo ≤ z ∧ z ≤ hi := inB_iff.1 (inv_some h).1

theorem cut_cutL (c : UInt8) (l : List UInt8) : cut l [c] = ((cutL c l).1, (cutL c l).2, decide (c ∈ l)) := by
  by_cases h : c ∈ l
  · obtain ⟨a, r, rfl, ha⟩ := split_at c l h
    rw [cut_at a r c ha, cutL_at r ha]
    simp
  · rw [cut_none l c h, cutL_none h]
    simp [h]
theorem cutL_hit {c : UInt8} {l : List UInt8} {k : Nat} (hk : k < l.length) (hc : l[k] = c) (hno : c ∉ l.take k) : cutL c l = (l.take k, l.drop (k + 1)) := by
  have h1 : l = l.take k ++ (c :: l.drop (k + 1)) := by rw [← hc, ← List.drop_eq_getElem_cons hk, List.take_append_drop]
  conv => lhs; rw [h1]
  exact cutL_at _ hno

/-- A text cut at the first k bytes of a kind. -/
def splitNC (c : UInt8) : Nat → List UInt8 → List (List UInt8)
  | 0, l => [l]
  | k + 1, l => if c ∈ l then (cutL c l).1 :: splitNC c k (cutL c l).2 else [l]
theorem splitNC_at {c : UInt8} {a : List UInt8} (k : Nat) (r : List UInt8) (h : c ∉ a) : splitNC c (k + 1) (a ++ c :: r) = a :: splitNC c k r := by
  rw [splitNC, if_pos (by simp), cutL_at r h]
theorem splitNC_none {c : UInt8} {a : List UInt8} (k : Nat) (h : c ∉ a) : splitNC c k a = [a] := by
  cases k with
  | zero => rfl
  | succ k => rw [splitNC, if_neg h]
theorem splitNC_pos {c : UInt8} (k : Nat) (l : List UInt8) : 1 ≤ (splitNC c k l).length := by
  cases k with
  | zero => exact Nat.le_refl _
  | succ k => rw [splitNC]; split <;> simp
theorem splitNC_le {c : UInt8} : ∀ (k : Nat) (l : List UInt8), (splitNC c k l).length ≤ k + 1
  | 0, _ => Nat.le_refl _
  | k + 1, l => by
    rw [splitNC]
    split
    · have := splitNC_le (c := c) k (cutL c l).2
      rw [List.length_cons]
      omega
    · simp
theorem splitNC_all {c : UInt8} : ∀ (k : Nat) (l : List UInt8), l.length ≤ k → splitNC c k l = splitC c l
  | 0, l, h => by
    have : l = [] := List.eq_nil_of_length_eq_zero (by omega)
    subst this
    rfl
  | k + 1, l, h => by
    by_cases hc : c ∈ l
    · obtain ⟨a, r, rfl, ha⟩ := split_at c l hc
      rw [splitNC_at k r ha, splitC_at r ha, splitNC_all k r (by simp at h; omega)]
    · rw [splitNC_none _ hc, splitC_none hc]
theorem splitNC_min {c : UInt8} (k n : Nat) (l : List UInt8) (h : n = l.length) : splitNC c (min k n) l = splitNC c k l := by
  rcases Nat.le_total k n with h1 | h1
  · rw [Nat.min_eq_left h1]
  · rw [Nat.min_eq_right h1, splitNC_all n l (by omega), splitNC_all k l (by omega)]
theorem splitK_nc (c : UInt8) : ∀ (k : Nat) (l : List UInt8), splitK [c] 0 k l = splitNC c k l
  | 0, _ => rfl
  | k + 1, l => by
    by_cases hc : c ∈ l
    · obtain ⟨a, r, rfl, ha⟩ := split_at c l hc
      rw [splitNC_at k r ha, splitK, index_one a r c ha, if_neg (by simp), ← splitK_nc c k r]
      simp
    · rw [splitNC_none _ hc, splitK, index_none l c hc, if_pos (by simp)]
theorem count_le_len (c : UInt8) (l : List UInt8) : ∀ n, l.length ≤ n → splitNC c (count l [c]) l = splitC c l ∧ (splitC c l).length = count l [c] + 1 := by
  intro n
  induction n generalizing l with
  | zero =>
    intro h
    have : l = [] := List.eq_nil_of_length_eq_zero (by omega)
    subst this
    rw [count_miss (index_none [] c (by simp))]
    exact ⟨rfl, rfl⟩
  | succ n ih =>
    intro h
    by_cases hc : c ∈ l
    · obtain ⟨a, r, rfl, ha⟩ := split_at c l hc
      have hcnt : count (a ++ c :: r) [c] = count r [c] + 1 := by
        have := count_hit (s := a ++ c :: r) (sub := [c]) (i := a.length) (by simp) (index_one a r c ha)
        rw [this, Nat.add_comm]
        congr 2
        simp
      obtain ⟨i1, i2⟩ := ih r (by simp at h; omega)
      rw [hcnt, splitNC_at _ r ha, splitC_at r ha, i1, List.length_cons, i2]
      exact ⟨rfl, rfl⟩
    · rw [count_miss (index_none l c hc), splitC_none hc]
      exact ⟨rfl, rfl⟩

/-- The numbers of parts; none if one of them is no number. -/
noncomputable def numL (lo hi : Int) : List (List UInt8) → Option (List Int)
  | [] => some []
  | p :: ps => match numOf lo hi p, numL lo hi ps with | some n, some ns => some (n :: ns) | _, _ => none
theorem numL_map {lo hi : Int} (hl : -9223372036854775808 ≤ lo) (hh : hi ≤ 9223372036854775807) : ∀ zs : List Int, (∀ z ∈ zs, lo ≤ z ∧ z ≤ hi) → numL lo hi (zs.map itoa) = some zs
  | [], _ => rfl
  | z :: zs, h => by
    rw [List.map_cons, numL, numOf_of hl hh (h z (by simp)).1 (h z (by simp)).2 rfl, numL_map hl hh zs (fun y hy => h y (by simp [hy]))]
theorem numL_snoc {lo hi : Int} (p : List UInt8) : ∀ ps : List (List UInt8), numL lo hi (ps ++ [p]) = match numL lo hi ps, numOf lo hi p with | some ns, some n => some (ns ++ [n]) | _, _ => none
  | [] => by
    rw [List.nil_append, numL, numL, numL]
    cases numOf lo hi p <;> rfl
  | q :: ps => by
    rw [List.cons_append, numL, numL, numL_snoc p ps]
    cases numOf lo hi q <;> cases numL lo hi ps <;> cases numOf lo hi p <;> rfl
theorem numL_none_app {lo hi : Int} (ps qs : List (List UInt8)) (h : numL lo hi ps = none) : numL lo hi (ps ++ qs) = none := by
  induction ps with
  | nil => cases h
  | cons p ps ih =>
    rw [List.cons_append, numL] at *
    cases h1 : numOf lo hi p with
    | none => rfl
    | some n =>
      cases h2 : numL lo hi ps with
      | none => rw [ih h2]
      | some ns => rw [h1, h2] at h; cases h
theorem numL_len {lo hi : Int} : ∀ (ps : List (List UInt8)) {zs : List Int}, numL lo hi ps = some zs → zs.length = ps.length
  | [], zs, h => by injection h with h; subst h; rfl
  | p :: ps, zs, h => by
    rw [numL] at h
    cases h1 : numOf lo hi p with
    | none => rw [h1] at h; cases h
    | some n =>
      cases h2 : numL lo hi ps with
      | none => rw [h1, h2] at h; cases h
      | some ns =>
        rw [h1, h2] at h
        injection h with h
        subst h
        rw [List.length_cons, List.length_cons, numL_len ps h2]

def editLine (e : Edit) : List UInt8 :=
  if e.kind = 1 then 43 :: (itoa e.id ++ 32 :: e.new.toList) else if e.kind = 2 then 45 :: (itoa e.id ++ 32 :: e.old.toList) else 126 :: (itoa e.id ++ 32 :: (e.old.toList ++ 124 :: e.new.toList))
theorem editText_line (e : Edit) : editText e = editLine e ++ [10] := by
  unfold editText editLine
  split
  · simp
  · split <;> simp
theorem sent_byte {l : List UInt8} (h : okSent l = true) {c : UInt8} (hc : c ∈ l) : (97 ≤ c.toNat ∧ c.toNat ≤ 122) ∨ (48 ≤ c.toNat ∧ c.toNat ≤ 57) ∨ c.toNat = 32 := by
  unfold okSent at h
  simp only [Bool.and_eq_true] at h
  obtain ⟨⟨⟨⟨h, _⟩, _⟩, _⟩, _⟩ := h
  rw [allLt_true] at h
  obtain ⟨k, hk, rfl⟩ := List.mem_iff_getElem.1 hc
  have := h k hk
  unfold byteAt at this
  rw [List.getD_eq_getElem?_getD, List.getElem?_eq_getElem hk] at this
  exact (sentCh_iff _).1 this
theorem name_byte {l : List UInt8} (h : okName l = true) {c : UInt8} (hc : c ∈ l) : 97 ≤ c.toNat ∧ c.toNat ≤ 122 := by
  unfold okName at h
  simp only [Bool.and_eq_true] at h
  obtain ⟨⟨h, _⟩, _⟩ := h
  rw [allLt_true] at h
  obtain ⟨k, hk, rfl⟩ := List.mem_iff_getElem.1 hc
  have := h k hk
  unfold byteAt at this
  rw [List.getD_eq_getElem?_getD, List.getElem?_eq_getElem hk] at this
  simpa using this
theorem itoa_not {c : UInt8} (n : Int) (h : c.toNat < 45 ∨ c.toNat = 46 ∨ c.toNat = 47 ∨ 57 < c.toNat) : c ∉ itoa n := by
  intro hc
  rcases itoa_bytes n c hc with hd | rfl
  · unfold isDigit at hd; omega
  · have : (45 : UInt8).toNat = 45 := rfl
    omega
theorem sent_not {l : List UInt8} (h : okSent l = true) {c : UInt8} (hc : c.toNat < 32 ∨ 122 < c.toNat ∨ (57 < c.toNat ∧ c.toNat < 97)) : c ∉ l := by
  intro hm
  have := sent_byte h hm
  omega
theorem name_not {l : List UInt8} (h : okName l = true) {c : UInt8} (hc : c.toNat < 97) : c ∉ l := by
  intro hm
  have := name_byte h hm
  omega
theorem okEdit_kinds {e : Edit} (h : okEdit e = true) : 1 ≤ e.id ∧ e.id ≤ 99 ∧ ((e.kind = 1 ∧ e.old = ⟨#[]⟩ ∧ okSent e.new.toList = true) ∨ (e.kind = 2 ∧ okSent e.old.toList = true ∧ e.new = ⟨#[]⟩) ∨ (e.kind = 3 ∧ okSent e.old.toList = true ∧ okSent e.new.toList = true)) := by
  unfold okEdit at h
  simp only [Bool.and_eq_true, Bool.or_eq_true, decide_eq_true_eq, inB_iff] at h
  obtain ⟨⟨h1, h2⟩, h⟩ := h
  refine ⟨h1, h2, ?_⟩
  have nil : ∀ b : ByteArray, b.toList = [] → b = ⟨#[]⟩ := fun b hb => by
    rw [← mk_toList b, hb]
  rcases h with (⟨⟨h, ho⟩, hn⟩ | ⟨⟨h, ho⟩, hn⟩) | ⟨⟨⟨h, ho⟩, hn⟩, _⟩
  · exact .inl ⟨h, nil _ ho, hn⟩
  · exact .inr (.inl ⟨h, ho, nil _ hn⟩)
  · exact .inr (.inr ⟨h, ho, hn⟩)
theorem line_not {e : Edit} (h : okEdit e = true) {c : UInt8} (hc : c.toNat < 32 ∨ c.toNat = 59) : c ∉ editLine e := by
  obtain ⟨_, _, hk⟩ := okEdit_kinds h
  have hi : c ∉ itoa e.id := itoa_not _ (by omega)
  have h1 : c ≠ 43 := by rintro rfl; revert hc; decide
  have h2 : c ≠ 45 := by rintro rfl; revert hc; decide
  have h3 : c ≠ 126 := by rintro rfl; revert hc; decide
  have h4 : c ≠ 32 := by rintro rfl; revert hc; decide
  have h5 : c ≠ 124 := by rintro rfl; revert hc; decide
  rcases hk with ⟨k, ho, hn⟩ | ⟨k, ho, hn⟩ | ⟨k, ho, hn⟩
  · have := sent_not hn (c := c) (by omega)
    unfold editLine
    rw [if_pos k]
    simp [h1, h4, hi, this]
  · have := sent_not ho (c := c) (by omega)
    unfold editLine
    rw [if_neg (by omega), if_pos k]
    simp [h2, h4, hi, this]
  · have a := sent_not hn (c := c) (by omega)
    have b := sent_not ho (c := c) (by omega)
    unfold editLine
    rw [if_neg (by omega), if_neg (by omega)]
    simp [h3, h4, h5, hi, a, b]
theorem patch_lines {q : List Edit} (h : okPatch q = true) : splitC 10 (patchText q) = q.map editLine ++ [[]] := by
  have e : patchText q = q.flatMap (fun x => editLine x ++ [10]) ++ [] := by
    rw [List.append_nil]
    unfold patchText
    congr 1
    funext x
    exact editText_line x
  rw [e, splitC_lines 10 editLine q [] (fun x hx => by
    obtain ⟨k, hk⟩ := List.getElem?_of_mem hx
    exact line_not (okPatch_at h hk) (.inl (by decide)))]
  rfl

/-- The edit with a line; d: a line that begins otherwise is a change, too. -/
noncomputable def lineP (d : Bool) (lo hi : Int) : List UInt8 → Edit
  | [] => ⟨0, 0, ⟨#[]⟩, ⟨#[]⟩⟩
  | h :: r =>
    if h = 43 then ⟨1, (numOf lo hi (cutL 32 r).1).getD 0, ⟨#[]⟩, ⟨(cutL 32 r).2.toArray⟩⟩
    else if h = 45 then ⟨2, (numOf lo hi (cutL 32 r).1).getD 0, ⟨(cutL 32 r).2.toArray⟩, ⟨#[]⟩⟩
    else if (d || h == 126) = true then ⟨3, (numOf lo hi (cutL 32 r).1).getD 0, ⟨(cutL 124 (cutL 32 r).2).1.toArray⟩, ⟨(cutL 124 (cutL 32 r).2).2.toArray⟩⟩
    else ⟨0, 0, ⟨#[]⟩, ⟨#[]⟩⟩
theorem lineP_of {e : Edit} (d : Bool) {lo hi : Int} (h : okEdit e = true) (hl : -9223372036854775808 ≤ lo) (hh : hi ≤ 9223372036854775807) (h1 : lo ≤ 1) (h2 : 99 ≤ hi) : lineP d lo hi (editLine e) = e := by
  obtain ⟨i1, i2, hk⟩ := okEdit_kinds h
  have hi' : (32 : UInt8) ∉ itoa e.id := itoa_not _ (.inl (by decide))
  have hn : numOf lo hi (itoa e.id) = some e.id := numOf_of hl hh (by omega) (by omega) rfl
  obtain ⟨kind, id, old, new⟩ := e
  simp only at hk hi' hn i1 i2
  rcases hk with ⟨rfl, rfl, hs⟩ | ⟨rfl, hs, rfl⟩ | ⟨rfl, hs, ht⟩
  · simp [editLine, lineP, cutL_at _ hi', hn, mk_toList]
  · simp [editLine, lineP, cutL_at _ hi', hn, mk_toList]
  · have h124 : (124 : UInt8) ∉ old.toList := sent_not hs (.inr (.inl (by decide)))
    simp [editLine, lineP, cutL_at _ hi', cutL_at _ h124, hn, mk_toList]

noncomputable def patchOf (t : List UInt8) : Option (List Edit) := inv okPatch patchText t
theorem lines_uniq {t : List UInt8} {ls : List (List UInt8)} (d : Bool) {lo hi : Int} (hl : -9223372036854775808 ≤ lo) (hh : hi ≤ 9223372036854775807) (h1 : lo ≤ 1) (h2 : 99 ≤ hi) (h : splitC 10 t = ls ++ [[]]) : ∀ q, okPatch q = true → patchText q = t → ls.map (lineP d lo hi) = q := by
  intro q hq e
  rw [← e, patch_lines hq] at h
  have hls : q.map editLine = ls := (List.append_inj' h rfl).1
  rw [← hls, List.map_map]
  conv => rhs; rw [← List.map_id q]
  apply List.map_congr_left
  intro x hx
  obtain ⟨k, hk⟩ := List.getElem?_of_mem hx
  exact lineP_of d (okPatch_at hq hk) hl hh h1 h2
end Go.Proofs.Ytlbnebmdolnagaa

namespace Go.Proofs.Ytlbnebmdolnagaa
open Go.RowKit Go.Lib

/-- The digits of a number, none for zero. -/
def dg (u : Nat) : List UInt8 := if u = 0 then [] else decDigits u

theorem dg_step (u : Nat) (h : ¬ u = 0) : dg u = dg (u / 10) ++ [UInt8.ofNat (48 + u % 10)] := by
  unfold dg
  rw [if_neg h]
  by_cases h10 : u < 10
  · rw [if_pos (by omega), decDigits, dif_pos h10, Nat.mod_eq_of_lt h10]; rfl
  · rw [if_neg (by omega), decDigits, dif_neg h10]
theorem len20 (a b : List UInt8) (n : Int) (h : a ++ b = itoa n) (h1 : -9223372036854775808 ≤ n) (h2 : n ≤ 9223372036854775807) : b.length ≤ 21 := by
  have := itoa_length_le n h1 h2
  rw [← h, List.length_append] at this
  omega
theorem dg_pos (n : Int) (h : 0 < n) : dg n.toNat = itoa n := by
  unfold dg itoa
  rw [if_neg (by omega), if_neg (by omega)]
theorem len21 (a b D : List UInt8) (h : a ++ b = D) (h1 : D.length ≤ 21) : b.length ≤ 21 := by
  rw [← h, List.length_append] at h1
  omega
theorem itoa_zero : itoa 0 = [48] := by unfold itoa decDigits; rfl

end Go.Proofs.Ytlbnebmdolnagaa
