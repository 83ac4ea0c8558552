/- Statutes and patches: what rises, what is found. No program here. -/
import Derived.Test.YtmgdodgofpapgaaDoorSt
namespace Go.Proofs.YtmgdodgofpapgaaDoor
open Go.RowKit Go.Lib

theorem adj_pair {α : Type} (key : α → Int) (s : List α) (h : ∀ (k : Nat) (a b : α), s[k]? = some a → s[k + 1]? = some b → key a < key b) : s.Pairwise (fun a b => key a < key b) := by
  rw [List.pairwise_iff_getElem]
  intro i j hi hj hij
  induction j with
  | zero => omega
  | succ j ih =>
    have hj' : j < s.length := by omega
    have h1 := h j s[j] s[j + 1] (List.getElem?_eq_getElem hj') (List.getElem?_eq_getElem hj)
    by_cases e : i = j
    · subst e
      exact h1
    · have := ih hj' (by omega)
      omega
theorem pair_adj {α : Type} (key : α → Int) {s : List α} (h : s.Pairwise (fun a b => key a < key b)) : ∀ (k : Nat) (a b : α), s[k]? = some a → s[k + 1]? = some b → key a < key b := by
  intro k a b ha hb
  obtain ⟨hk, rfl⟩ := List.getElem?_eq_some_iff.1 ha
  obtain ⟨hk', rfl⟩ := List.getElem?_eq_some_iff.1 hb
  exact (List.pairwise_iff_getElem.1 h) k (k + 1) hk hk' (by omega)

def RiseA (s : List Art) : Prop := s.Pairwise (fun a b => a.id < b.id)
def RiseE (p : List Edit) : Prop := p.Pairwise (fun a b => a.id < b.id)

theorem okStat_iff (s : List Art) : okStat s = true ↔ (∀ a ∈ s, okArt a = true) ∧ RiseA s ∧ s.length ≤ 8 := by
  unfold okStat
  rw [Bool.and_eq_true, allLt_true, decide_eq_true_eq]
  constructor
  · rintro ⟨h, hl⟩
    refine ⟨fun a ha => ?_, adj_pair (fun x : Art => x.id) s (fun k a b ha hb => ?_), hl⟩
    · obtain ⟨k, hk⟩ := List.getElem?_of_mem ha
      have := h k (List.getElem?_eq_some_iff.1 hk).1
      unfold statAt at this
      rw [hk, Bool.and_eq_true] at this
      exact this.1
    · have := h (k + 1) (List.getElem?_eq_some_iff.1 hb).1
      unfold statAt artId at this
      rw [hb] at this
      simp [ha] at this
      exact this.2
  · rintro ⟨h1, h2, hl⟩
    refine ⟨fun k hk => ?_, hl⟩
    have hx : s[k]? = some s[k] := List.getElem?_eq_getElem hk
    rcases k with _ | k
    · exact statAt_zero rfl hx (h1 _ (List.getElem_mem hk))
    · have hd : s[k]? = some s[k] := List.getElem?_eq_getElem (by omega)
      rw [statAt_succ hd hx (h1 _ (List.getElem_mem hk)), decide_eq_true_eq]
      exact pair_adj (fun x : Art => x.id) h2 k _ _ hd hx
theorem okPatch_iff (s : List Edit) : okPatch s = true ↔ (∀ a ∈ s, okEdit a = true) ∧ RiseE s ∧ s.length ≤ 16 := by
  rw [okPatch_eq, Bool.and_eq_true, allLt_true, decide_eq_true_eq]
  constructor
  · rintro ⟨h, hl⟩
    refine ⟨fun a ha => ?_, adj_pair (fun x : Edit => x.id) s (fun k a b ha hb => ?_), hl⟩
    · obtain ⟨k, hk⟩ := List.getElem?_of_mem ha
      have := h k (List.getElem?_eq_some_iff.1 hk).1
      unfold patchAt at this
      rw [hk, Bool.and_eq_true] at this
      exact this.1
    · have := h (k + 1) (List.getElem?_eq_some_iff.1 hb).1
      unfold patchAt idAt at this
      rw [hb] at this
      simp [ha] at this
      exact this.2
  · rintro ⟨h1, h2, hl⟩
    refine ⟨fun k hk => ?_, hl⟩
    have hx : s[k]? = some s[k] := List.getElem?_eq_getElem hk
    rcases k with _ | k
    · exact patchAt_zero rfl hx (h1 _ (List.getElem_mem hk))
    · have hd : s[k]? = some s[k] := List.getElem?_eq_getElem (by omega)
      rw [patchAt_succ hd hx (h1 _ (List.getElem_mem hk)), decide_eq_true_eq]
      exact pair_adj (fun x : Edit => x.id) h2 k _ _ hd hx

/-- The text of the article with a number; empty if there is none. -/
def findA : List Art → Int → ByteArray
  | [], _ => ⟨#[]⟩
  | a :: r, i => if a.id = i then a.text else findA r i
def noEdit : Edit := ⟨0, 0, ⟨#[]⟩, ⟨#[]⟩⟩
/-- The edit with a number; of kind 0 if there is none. -/
def editOf : List Edit → Int → Edit
  | [], _ => noEdit
  | a :: r, i => if a.id = i then a else editOf r i
theorem findA_none {s : List Art} {i : Int} (h : ∀ a ∈ s, a.id ≠ i) : findA s i = ⟨#[]⟩ := by
  induction s with
  | nil => rfl
  | cons a r ih => rw [findA, if_neg (h a (List.mem_cons_self)), ih (fun x hx => h x (List.mem_cons_of_mem _ hx))]
theorem findA_mem {s : List Art} (hr : RiseA s) {a : Art} (h : a ∈ s) : findA s a.id = a.text := by
  induction s with
  | nil => cases h
  | cons b r ih =>
    rw [findA]
    obtain ⟨hb, hr'⟩ := List.pairwise_cons.1 hr
    rcases List.mem_cons.1 h with rfl | h
    · rw [if_pos rfl]
    · rw [if_neg (by have := hb a h; omega), ih hr' h]
theorem editOf_none {s : List Edit} {i : Int} (h : ∀ a ∈ s, a.id ≠ i) : editOf s i = noEdit := by
  induction s with
  | nil => rfl
  | cons a r ih => rw [editOf, if_neg (h a (List.mem_cons_self)), ih (fun x hx => h x (List.mem_cons_of_mem _ hx))]
theorem editOf_mem {s : List Edit} (hr : RiseE s) {a : Edit} (h : a ∈ s) : editOf s a.id = a := by
  induction s with
  | nil => cases h
  | cons b r ih =>
    rw [editOf]
    obtain ⟨hb, hr'⟩ := List.pairwise_cons.1 hr
    rcases List.mem_cons.1 h with rfl | h
    · rw [if_pos rfl]
    · rw [if_neg (by have := hb a h; omega), ih hr' h]
theorem editOf_cases (s : List Edit) (i : Int) : (editOf s i ∈ s ∧ (editOf s i).id = i) ∨ (editOf s i = noEdit ∧ ∀ a ∈ s, a.id ≠ i) := by
  induction s with
  | nil => exact .inr ⟨rfl, fun a ha => by cases ha⟩
  | cons b r ih =>
    rw [editOf]
    by_cases h : b.id = i
    · rw [if_pos h]
      exact .inl ⟨List.mem_cons_self, h⟩
    · rw [if_neg h]
      rcases ih with ⟨h1, h2⟩ | ⟨h1, h2⟩
      · exact .inl ⟨List.mem_cons_of_mem _ h1, h2⟩
      · refine .inr ⟨h1, fun a ha => ?_⟩
        rcases List.mem_cons.1 ha with rfl | ha
        · exact h
        · exact h2 a ha
theorem findA_cases (s : List Art) (i : Int) : (∃ a ∈ s, a.id = i ∧ findA s i = a.text) ∨ (findA s i = ⟨#[]⟩ ∧ ∀ a ∈ s, a.id ≠ i) := by
  induction s with
  | nil => exact .inr ⟨rfl, fun a ha => by cases ha⟩
  | cons b r ih =>
    rw [findA]
    by_cases h : b.id = i
    · rw [if_pos h]
      exact .inl ⟨b, List.mem_cons_self, h, rfl⟩
    · rw [if_neg h]
      rcases ih with ⟨a, h1, h2, h3⟩ | ⟨h1, h2⟩
      · exact .inl ⟨a, List.mem_cons_of_mem _ h1, h2, h3⟩
      · refine .inr ⟨h1, fun a ha => ?_⟩
        rcases List.mem_cons.1 ha with rfl | ha
        · exact h
        · exact h2 a ha
theorem findA_drop {s : List Art} {i : Int} {k : Nat} {a : Art} (hk : s[k]? = some a) (hn : a.id ≠ i) (h : findA s i = findA (s.drop k) i) : findA s i = findA (s.drop (k + 1)) i := by
  have hlt := (List.getElem?_eq_some_iff.1 hk).1
  have e : s.drop k = a :: s.drop (k + 1) := by
    rw [List.drop_eq_getElem_cons hlt]
    rw [(List.getElem?_eq_some_iff.1 hk).2]
  rw [h, e, findA, if_neg hn]
theorem findA_hit {s : List Art} {i : Int} {k : Nat} {a : Art} (hk : s[k]? = some a) (hn : a.id = i) (h : findA s i = findA (s.drop k) i) : findA s i = a.text := by
  have hlt := (List.getElem?_eq_some_iff.1 hk).1
  have e : s.drop k = a :: s.drop (k + 1) := by
    rw [List.drop_eq_getElem_cons hlt]
    rw [(List.getElem?_eq_some_iff.1 hk).2]
  rw [h, e, findA, if_pos hn]
theorem findA_end {s : List Art} {i : Int} {k : Nat} (hk : s.length ≤ k) (h : findA s i = findA (s.drop k) i) : findA s i = ⟨#[]⟩ := by
  rw [h, List.drop_eq_nil_of_le hk]
  rfl
theorem editOf_drop {s : List Edit} {i : Int} {k : Nat} {a : Edit} (hk : s[k]? = some a) (hn : a.id ≠ i) (h : editOf s i = editOf (s.drop k) i) : editOf s i = editOf (s.drop (k + 1)) i := by
  have hlt := (List.getElem?_eq_some_iff.1 hk).1
  have e : s.drop k = a :: s.drop (k + 1) := by
    rw [List.drop_eq_getElem_cons hlt]
    rw [(List.getElem?_eq_some_iff.1 hk).2]
  rw [h, e, editOf, if_neg hn]
theorem editOf_hit {s : List Edit} {i : Int} {k : Nat} {a : Edit} (hk : s[k]? = some a) (hn : a.id = i) (h : editOf s i = editOf (s.drop k) i) : editOf s i = a := by
  have hlt := (List.getElem?_eq_some_iff.1 hk).1
  have e : s.drop k = a :: s.drop (k + 1) := by
    rw [List.drop_eq_getElem_cons hlt]
    rw [(List.getElem?_eq_some_iff.1 hk).2]
  rw [h, e, editOf, if_pos hn]
theorem editOf_end {s : List Edit} {i : Int} {k : Nat} (hk : s.length ≤ k) (h : editOf s i = editOf (s.drop k) i) : editOf s i = noEdit := by
  rw [h, List.drop_eq_nil_of_le hk]
  rfl

/-- The edit from one text to another. -/
def stepE (i : Int) (old new : ByteArray) : Edit :=
  if old.toList = new.toList then noEdit else if old.toList = [] then ⟨1, i, old, new⟩ else if new.toList = [] then ⟨2, i, old, new⟩ else ⟨3, i, old, new⟩
theorem stepE_ok {i : Int} {old new : ByteArray} (h1 : 1 ≤ i) (h2 : i ≤ 99) (ho : old.toList = [] ∨ okSent old.toList = true) (hn : new.toList = [] ∨ okSent new.toList = true) : stepE i old new = noEdit ∨ (okEdit (stepE i old new) = true ∧ (stepE i old new).id = i ∧ (stepE i old new).kind ≠ 0 ∧ (stepE i old new).old = old) := by
  unfold stepE
  have hi : inB i 1 99 = true := inB_true h1 h2
  split
  · exact .inl rfl
  · rename_i hne
    right
    split
    · rename_i h0
      have hn' : okSent new.toList = true := hn.resolve_left (fun h => hne (by rw [h0, h]))
      exact ⟨by simp [okEdit, hi, h0, hn'], rfl, by simp, rfl⟩
    · rename_i h0
      have ho' := ho.resolve_left h0
      split
      · rename_i h3
        exact ⟨by simp [okEdit, hi, h3, ho'], rfl, by simp, rfl⟩
      · rename_i h3
        have hn' := hn.resolve_left h3
        exact ⟨by simp [okEdit, hi, ho', hn', hne], rfl, by simp, rfl⟩

/-- Two rising statutes without empty texts are the same if they find the same. -/
theorem find_ext : ∀ {s t : List Art}, RiseA s → RiseA t → (∀ a ∈ s, a.text ≠ ⟨#[]⟩) → (∀ a ∈ t, a.text ≠ ⟨#[]⟩) → (∀ i, findA s i = findA t i) → s = t
  | [], [], _, _, _, _, _ => rfl
  | [], b :: t, _, ht, _, hb, h => by
    have := h b.id
    rw [findA, findA, if_pos rfl] at this
    exact absurd this.symm (hb b List.mem_cons_self)
  | a :: s, [], _, _, ha, _, h => by
    have := h a.id
    rw [findA, findA, if_pos rfl] at this
    exact absurd this (ha a List.mem_cons_self)
  | a :: s, b :: t, hs, ht, ha, hb, h => by
    obtain ⟨hs1, hs2⟩ := List.pairwise_cons.1 hs
    obtain ⟨ht1, ht2⟩ := List.pairwise_cons.1 ht
    have hid : a.id = b.id := by
      rcases Int.lt_trichotomy a.id b.id with hlt | he | hgt
      · have e := h a.id
        rw [findA, if_pos rfl, findA, if_neg (by omega), findA_none (fun x hx => by have := ht1 x hx; omega)] at e
        exact absurd e (ha a List.mem_cons_self)
      · exact he
      · have e := h b.id
        rw [findA, if_neg (by omega), findA_none (fun x hx => by have := hs1 x hx; omega), findA, if_pos rfl] at e
        exact absurd e.symm (hb b List.mem_cons_self)
    have htx : a.text = b.text := by
      have e := h a.id
      rw [findA, if_pos rfl, findA, if_pos hid.symm] at e
      exact e
    have hab : a = b := by
      obtain ⟨i, x⟩ := a
      obtain ⟨j, y⟩ := b
      simp only at hid htx
      rw [hid, htx]
    rw [hab, find_ext hs2 ht2 (fun x hx => ha x (List.mem_cons_of_mem _ hx)) (fun x hx => hb x (List.mem_cons_of_mem _ hx)) (fun i => by
      by_cases hi : i = a.id
      · rw [findA_none (fun x hx => by have := hs1 x hx; omega), findA_none (fun x hx => by have := ht1 x hx; omega)]
      · have e := h i
        rw [findA, if_neg (by omega), findA, if_neg (by omega)] at e
        exact e)]
end Go.Proofs.YtmgdodgofpapgaaDoor
