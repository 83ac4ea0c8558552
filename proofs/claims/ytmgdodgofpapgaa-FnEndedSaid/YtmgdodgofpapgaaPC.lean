/- The texts of statutes, as plain functions. No program here. Statutes and patches: what rises, what is found. No program here. Statutes: the program's test and text, walked. The source of draws: each draw gives a byte, and leaves a source. Draws: what only turns the source; sentences drawn; texts and edits found. Edits found and made, walked: the reference's. A statute drawn, walked: the reference's. A patch drawn for a statute, walked: the reference's. Edits that fit a statute, walked: the reference's. A statute and two patches drawn that fit it, walked: the reference's. What the laws compare: articles and edits, walked; and what is too long. What is too long for a law, walked; what a slice of bytes that came in is. -/
import Derived.Test.YtmgdodgofpapgaaPB
import Derived.RegionCalls
import Derived.Test.YtmgdodgofpapgaaPA
import Derived.OwnWalk
import Derived.Laws.StructEq
import Derived.ProofKit
import Derived.OpenShut
import Derived.Below
namespace Go.Proofs.Ytmgdodgofpapgaa
open Go.RowKit Go.Lib

structure Art where
  id : Int
  text : ByteArray
def artCells (a : Art) : List Value := [.int .i64 a.id, .string a.text]
def Arts (w : World) (B : Nat) (v : Value) (s : List Art) : Prop := SlR (Pl artCells) 2 w B v s
def okArt (a : Art) : Bool := inB a.id 1 99 && okSent a.text.toList
def artId (s : List Art) (k : Nat) : Int := ((s[k]?).map (·.id)).getD 0
def statAt (s : List Art) (k : Nat) : Bool := ((s[k]?).map okArt).getD true && (decide (k = 0) || decide (artId s (k - 1) < artId s k))
def okStat (s : List Art) : Bool := allLt s.length (statAt s) && decide (s.length ≤ 8)
def artLine (a : Art) : List UInt8 := itoa a.id ++ 32 :: a.text.toList
def statText (s : List Art) : List UInt8 := s.flatMap (fun a => artLine a ++ [10])

theorem arts_at {w : World} {B b off : Nat} {es : List Art} (h : ∀ (k : Nat) (x : Art), es[k]? = some x → ∃ us, us.length = 2 ∧ Pl artCells w B us x ∧ ∀ (j : Nat) (u : Value), us[j]? = some u → w.cell? ⟨b, off + k * 2 + j, none⟩ = some u) {k : Nat} {e : Art} (hk : es[k]? = some e) :
    w.cell? ⟨b, off + k * 2, none⟩ = some (.int .i64 e.id) ∧ w.cell? ⟨b, off + k * 2 + 1, none⟩ = some (.string e.text) := by
  obtain ⟨us, hl, hp, hc⟩ := h k e hk
  have hp : us = artCells e := hp
  subst hp
  exact ⟨hc 0 _ rfl, hc 1 _ rfl⟩
theorem statAt_bad {p : List Art} {k : Nat} {e : Art} (h : p[k]? = some e) (ho : okArt e = false) : statAt p k = false := by
  unfold statAt
  rw [h]
  simp [ho]
theorem statAt_zero {p : List Art} {k : Nat} {e : Art} (hk : k = 0) (h : p[k]? = some e) (ho : okArt e = true) : statAt p k = true := by
  subst hk
  unfold statAt
  rw [h]
  simp [ho]
theorem statAt_succ {p : List Art} {m : Nat} {d e : Art} (hd : p[m]? = some d) (h : p[m + 1]? = some e) (ho : okArt e = true) : statAt p (m + 1) = decide (d.id < e.id) := by
  unfold statAt artId
  rw [h]
  simp [ho, hd]
theorem okStat_bad {p : List Art} {k : Nat} (hk : k < p.length) (h : statAt p k = false) : okStat p = false := by
  unfold okStat
  rw [allLt_false hk h]
  rfl
theorem okStat_at {p : List Art} (h : okStat p = true) {k : Nat} {e : Art} (hk : p[k]? = some e) : okArt e = true := by
  unfold okStat at h
  rw [Bool.and_eq_true, allLt_true] at h
  have hlt : k < p.length := (List.getElem?_eq_some_iff.1 hk).1
  have := h.1 k hlt
  unfold statAt at this
  rw [hk, Bool.and_eq_true] at this
  exact this.1
theorem okStat_mem {p : List Art} (h : okStat p = true) {e : Art} (he : e ∈ p) : okArt e = true := by
  obtain ⟨k, hk⟩ := List.getElem?_of_mem he
  exact okStat_at h hk
theorem okStat_len {p : List Art} (h : okStat p = true) : p.length ≤ 8 := by
  unfold okStat at h
  rw [Bool.and_eq_true] at h
  exact of_decide_eq_true h.2
theorem okArt_facts {e : Art} (h : okArt e = true) : 1 ≤ e.id ∧ e.id ≤ 99 ∧ okSent e.text.toList = true ∧ e.text.toList.length ≤ 24 := by
  unfold okArt at h
  rw [Bool.and_eq_true, inB_iff] at h
  exact ⟨h.1.1, h.1.2, h.2, okSent_len h.2⟩
theorem artLine_len {e : Art} (h : okArt e = true) : (artLine e).length ≤ 60 := by
  obtain ⟨h1, h2, _, h4⟩ := okArt_facts h
  have := itoa_length_le e.id (by omega) (by omega)
  unfold artLine
  simp only [List.length_append, List.length_cons]
  omega
theorem statText_take {p : List Art} (h : okStat p = true) (k : Nat) : (statText (p.take k)).length ≤ 61 * k := by
  induction k with
  | zero => simp [statText]
  | succ k ih =>
    by_cases hlt : k < p.length
    · rw [List.take_succ_eq_append_getElem hlt]
      unfold statText at *
      rw [List.flatMap_append, List.length_append]
      have := artLine_len (okStat_at h (List.getElem?_eq_getElem hlt))
      simp only [List.flatMap_cons, List.flatMap_nil, List.append_nil, List.length_append, List.length_cons, List.length_nil]
      omega
    · have e1 : p.take k = p := List.take_of_length_le (by omega)
      have e2 : p.take (k + 1) = p := List.take_of_length_le (by omega)
      rw [e2]
      rw [e1] at ih
      omega
theorem statText_succ {p : List Art} {k : Nat} {e : Art} (hk : p[k]? = some e) : statText (p.take (k + 1)) = statText (p.take k) ++ (artLine e ++ [10]) := by
  have hlt : k < p.length := (List.getElem?_eq_some_iff.1 hk).1
  rw [List.take_succ_eq_append_getElem hlt]
  have : p[k] = e := by rw [List.getElem?_eq_getElem hlt] at hk; exact Option.some.inj hk
  unfold statText
  rw [List.flatMap_append, this]
  simp
theorem art_line_not {e : Art} (h : okArt e = true) : (10 : UInt8) ∉ artLine e := by
  obtain ⟨_, _, hs, _⟩ := okArt_facts h
  have hi : (10 : UInt8) ∉ itoa e.id := itoa_not _ (.inl (by decide))
  have := sent_not hs (c := 10) (.inl (by decide))
  unfold artLine
  simp [hi, this]
theorem stat_lines {q : List Art} (h : okStat q = true) : splitC 10 (statText q) = q.map artLine ++ [[]] := by
  have e : statText q = q.flatMap (fun x => artLine x ++ [10]) ++ [] := by
    rw [List.append_nil]
    rfl
  rw [e, splitC_lines 10 artLine q [] (fun x hx => art_line_not (okStat_mem h hx))]
  rfl
theorem last_art {t : List UInt8} : ∀ q, okStat q = true → statText q = t → (splitC 10 t).dropLast = q.map artLine := by
  intro q h e
  rw [← e, stat_lines h]
  simp
/-- The article with a line. -/
noncomputable def lineA (l : List UInt8) : Art := ⟨(numOf 1 99 (cutL 32 l).1).getD 0, ⟨(cutL 32 l).2.toArray⟩⟩
theorem lineA_of {e : Art} (h : okArt e = true) : lineA (artLine e) = e := by
  obtain ⟨i1, i2, _, _⟩ := okArt_facts h
  have hi' : (32 : UInt8) ∉ itoa e.id := itoa_not _ (.inl (by decide))
  have hn : numOf 1 99 (itoa e.id) = some e.id := numOf_of (by omega) (by omega) (by omega) (by omega) rfl
  obtain ⟨id, text⟩ := e
  simp only at hi' hn
  simp [artLine, lineA, cutL_at _ hi', hn, mk_toList]
theorem lineA_size (l : List UInt8) : (lineA l).text.size ≤ l.length := by
  have := (cutL_len 32 l).2
  unfold lineA
  simpa [ByteArray.size] using this
noncomputable def statOf (t : List UInt8) : Option (List Art) := inv okStat statText t
/-- What StatuteText gives. -/
def statOut (s : List Art) : List UInt8 := if okStat s = true then statText s else []
theorem statOut_no {s : List Art} (h : okStat s = false) : statOut s = [] := by unfold statOut; rw [if_neg (by rw [h]; simp)]
theorem statOut_ok {s : List Art} (h : okStat s = true) : statOut s = statText s := by unfold statOut; rw [if_pos h]
theorem statOf_text {s : List Art} (h : okStat s = true) : statOf (statText s) = some s := inv_of (fun q hq e => by
  have h1 : q.map artLine = s.map artLine := by
    have := congrArg (splitC 10) e
    rw [stat_lines hq, stat_lines h] at this
    exact (List.append_inj' this rfl).1
  have h2 := congrArg (List.map lineA) h1
  rw [List.map_map, List.map_map] at h2
  have back : ∀ p : List Art, okStat p = true → p.map (lineA ∘ artLine) = p := fun p hp => by
    conv => rhs; rw [← List.map_id p]
    apply List.map_congr_left
    intro x hx
    exact lineA_of (okStat_mem hp hx)
  rw [back _ hq, back _ h] at h2
  exact h2.symm) h rfl
end Go.Proofs.Ytmgdodgofpapgaa

namespace Go.Proofs.Ytmgdodgofpapgaa
open Go.RowKit Go.Lib

theorem adj_pair {α : Type} (key : α → Int) (s : List α) (h : ∀ (k : Nat) (a b : α), s[k]? = some a → s[k + 1]? = some b → key a < key b) : s.Pairwise (fun a b => key a < key b) := by
  rw [List.pairwise_iff_getElem]
  intro i j hi hj hij
  induction j with
  | zero => omega
  | succ j ih =>
    have hj' : j < s.length := by omega
    have h1 := h j s[j] s[j + 1] (List.getElem?_eq_getElem hj') (List.getElem?_eq_getElem hj)
    by_cases e : i = j
    · subst e
      exact h1
    · have := ih hj' (by omega)
      omega
theorem pair_adj {α : Type} (key : α → Int) {s : List α} (h : s.Pairwise (fun a b => key a < key b)) : ∀ (k : Nat) (a b : α), s[k]? = some a → s[k + 1]? = some b → key a < key b := by
  intro k a b ha hb
  obtain ⟨hk, rfl⟩ := List.getElem?_eq_some_iff.1 ha
  obtain ⟨hk', rfl⟩ := List.getElem?_eq_some_iff.1 hb
  exact (List.pairwise_iff_getElem.1 h) k (k + 1) hk hk' (by omega)

def RiseA (s : List Art) : Prop := s.Pairwise (fun a b => a.id < b.id)
def RiseE (p : List Edit) : Prop := p.Pairwise (fun a b => a.id < b.id)

theorem okStat_iff (s : List Art) : okStat s = true ↔ (∀ a ∈ s, okArt a = true) ∧ RiseA s ∧ s.length ≤ 8 := by
  unfold okStat
  rw [Bool.and_eq_true, allLt_true, decide_eq_true_eq]
  constructor
  · rintro ⟨h, hl⟩
    refine ⟨fun a ha => ?_, adj_pair (fun x : Art => x.id) s (fun k a b ha hb => ?_), hl⟩
    · obtain ⟨k, hk⟩ := List.getElem?_of_mem ha
      have := h k (List.getElem?_eq_some_iff.1 hk).1
      unfold statAt at this
      rw [hk, Bool.and_eq_true] at this
      exact this.1
    · have := h (k + 1) (List.getElem?_eq_some_iff.1 hb).1
      unfold statAt artId at this
      rw [hb] at this
      simp [ha] at this
      exact this.2
  · rintro ⟨h1, h2, hl⟩
    refine ⟨fun k hk => ?_, hl⟩
    have hx : s[k]? = some s[k] := List.getElem?_eq_getElem hk
    rcases k with _ | k
    · exact statAt_zero rfl hx (h1 _ (List.getElem_mem hk))
    · have hd : s[k]? = some s[k] := List.getElem?_eq_getElem (by omega)
      rw [statAt_succ hd hx (h1 _ (List.getElem_mem hk)), decide_eq_true_eq]
      exact pair_adj (fun x : Art => x.id) h2 k _ _ hd hx
theorem okPatch_iff (s : List Edit) : okPatch s = true ↔ (∀ a ∈ s, okEdit a = true) ∧ RiseE s ∧ s.length ≤ 16 := by
  rw [okPatch_eq, Bool.and_eq_true, allLt_true, decide_eq_true_eq]
  constructor
  · rintro ⟨h, hl⟩
    refine ⟨fun a ha => ?_, adj_pair (fun x : Edit => x.id) s (fun k a b ha hb => ?_), hl⟩
    · obtain ⟨k, hk⟩ := List.getElem?_of_mem ha
      have := h k (List.getElem?_eq_some_iff.1 hk).1
      unfold patchAt at this
      rw [hk, Bool.and_eq_true] at this
      exact this.1
    · have := h (k + 1) (List.getElem?_eq_some_iff.1 hb).1
      unfold patchAt idAt at this
      rw [hb] at this
      simp [ha] at this
      exact this.2
  · rintro ⟨h1, h2, hl⟩
    refine ⟨fun k hk => ?_, hl⟩
    have hx : s[k]? = some s[k] := List.getElem?_eq_getElem hk
    rcases k with _ | k
    · exact patchAt_zero rfl hx (h1 _ (List.getElem_mem hk))
    · have hd : s[k]? = some s[k] := List.getElem?_eq_getElem (by omega)
      rw [patchAt_succ hd hx (h1 _ (List.getElem_mem hk)), decide_eq_true_eq]
      exact pair_adj (fun x : Edit => x.id) h2 k _ _ hd hx

/-- The text of the article with a number; empty if there is none. -/
def findA : List Art → Int → ByteArray
  | [], _ => ⟨#[]⟩
  | a :: r, i => if a.id = i then a.text else findA r i
def noEdit : Edit := ⟨0, 0, ⟨#[]⟩, ⟨#[]⟩⟩
/-- The edit with a number; of kind 0 if there is none. -/
def editOf : List Edit → Int → Edit
  | [], _ => noEdit
  | a :: r, i => if a.id = i then a else editOf r i
theorem findA_none {s : List Art} {i : Int} (h : ∀ a ∈ s, a.id ≠ i) : findA s i = ⟨#[]⟩ := by
  induction s with
  | nil => rfl
  | cons a r ih => rw [findA, if_neg (h a (List.mem_cons_self)), ih (fun x hx => h x (List.mem_cons_of_mem _ hx))]
theorem findA_mem {s : List Art} (hr : RiseA s) {a : Art} (h : a ∈ s) : findA s a.id = a.text := by
  induction s with
  | nil => cases h
  | cons b r ih =>
    rw [findA]
    obtain ⟨hb, hr'⟩ := List.pairwise_cons.1 hr
    rcases List.mem_cons.1 h with rfl | h
    · rw [if_pos rfl]
    · rw [if_neg (by have := hb a h; omega), ih hr' h]
theorem editOf_none {s : List Edit} {i : Int} (h : ∀ a ∈ s, a.id ≠ i) : editOf s i = noEdit := by
  induction s with
  | nil => rfl
  | cons a r ih => rw [editOf, if_neg (h a (List.mem_cons_self)), ih (fun x hx => h x (List.mem_cons_of_mem _ hx))]
theorem editOf_mem {s : List Edit} (hr : RiseE s) {a : Edit} (h : a ∈ s) : editOf s a.id = a := by
  induction s with
  | nil => cases h
  | cons b r ih =>
    rw [editOf]
    obtain ⟨hb, hr'⟩ := List.pairwise_cons.1 hr
    rcases List.mem_cons.1 h with rfl | h
    · rw [if_pos rfl]
    · rw [if_neg (by have := hb a h; omega), ih hr' h]
theorem editOf_cases (s : List Edit) (i : Int) : (editOf s i ∈ s ∧ (editOf s i).id = i) ∨ (editOf s i = noEdit ∧ ∀ a ∈ s, a.id ≠ i) := by
  induction s with
  | nil => exact .inr ⟨rfl, fun a ha => by cases ha⟩
  | cons b r ih =>
    rw [editOf]
    by_cases h : b.id = i
    · rw [if_pos h]
      exact .inl ⟨List.mem_cons_self, h⟩
    · rw [if_neg h]
      rcases ih with ⟨h1, h2⟩ | ⟨h1, h2⟩
      · exact .inl ⟨List.mem_cons_of_mem _ h1, h2⟩
      · refine .inr ⟨h1, fun a ha => ?_⟩
        rcases List.mem_cons.1 ha with rfl | ha
        · exact h
        · exact h2 a ha
theorem findA_cases (s : List Art) (i : Int) : (∃ a ∈ s, a.id = i ∧ findA s i = a.text) ∨ (findA s i = ⟨#[]⟩ ∧ ∀ a ∈ s, a.id ≠ i) := by
  induction s with
  | nil => exact .inr ⟨rfl, fun a ha => by cases ha⟩
  | cons b r ih =>
    rw [findA]
    by_cases h : b.id = i
    · rw [if_pos h]
      exact .inl ⟨b, List.mem_cons_self, h, rfl⟩
    · rw [if_neg h]
      rcases ih with ⟨a, h1, h2, h3⟩ | ⟨h1, h2⟩
      · exact .inl ⟨a, List.mem_cons_of_mem _ h1, h2, h3⟩
      · refine .inr ⟨h1, fun a ha => ?_⟩
        rcases List.mem_cons.1 ha with rfl | ha
        · exact h
        · exact h2 a ha
theorem findA_drop {s : List Art} {i : Int} {k : Nat} {a : Art} (hk : s[k]? = some a) (hn : a.id ≠ i) (h : findA s i = findA (s.drop k) i) : findA s i = findA (s.drop (k + 1)) i := by
  have hlt := (List.getElem?_eq_some_iff.1 hk).1
  have e : s.drop k = a :: s.drop (k + 1) := by
    rw [List.drop_eq_getElem_cons hlt]
    rw [(List.getElem?_eq_some_iff.1 hk).2]
  rw [h, e, findA, if_neg hn]
theorem findA_hit {s : List Art} {i : Int} {k : Nat} {a : Art} (hk : s[k]? = some a) (hn : a.id = i) (h : findA s i = findA (s.drop k) i) : findA s i = a.text := by
  have hlt := (List.getElem?_eq_some_iff.1 hk).1
  have e : s.drop k = a :: s.drop (k + 1) := by
    rw [List.drop_eq_getElem_cons hlt]
    rw [(List.getElem?_eq_some_iff.1 hk).2]
  rw [h, e, findA, if_pos hn]
theorem findA_end {s : List Art} {i : Int} {k : Nat} (hk : s.length ≤ k) (h : findA s i = findA (s.drop k) i) : findA s i = ⟨#[]⟩ := by
  rw [h, List.drop_eq_nil_of_le hk]
  rfl
theorem editOf_drop {s : List Edit} {i : Int} {k : Nat} {a : Edit} (hk : s[k]? = some a) (hn : a.id ≠ i) (h : editOf s i = editOf (s.drop k) i) : editOf s i = editOf (s.drop (k + 1)) i := by
  have hlt := (List.getElem?_eq_some_iff.1 hk).1
  have e : s.drop k = a :: s.drop (k + 1) := by
    rw [List.drop_eq_getElem_cons hlt]
    rw [(List.getElem?_eq_some_iff.1 hk).2]
  rw [h, e, editOf, if_neg hn]
theorem editOf_hit {s : List Edit} {i : Int} {k : Nat} {a : Edit} (hk : s[k]? = some a) (hn : a.id = i) (h : editOf s i = editOf (s.drop k) i) : editOf s i = a := by
  have hlt := (List.getElem?_eq_some_iff.1 hk).1
  have e : s.drop k = a :: s.drop (k + 1) := by
    rw [List.drop_eq_getElem_cons hlt]
    rw [(List.getElem?_eq_some_iff.1 hk).2]
  rw [h, e, editOf, if_pos hn]
theorem editOf_end {s : List Edit} {i : Int} {k : Nat} (hk : s.length ≤ k) (h : editOf s i = editOf (s.drop k) i) : editOf s i = noEdit := by
  rw [h, List.drop_eq_nil_of_le hk]
  rfl

/-- The edit from one text to another. -/
def stepE (i : Int) (old new : ByteArray) : Edit :=
  if old.toList = new.toList then noEdit else if old.toList = [] then ⟨1, i, old, new⟩ else if new.toList = [] then ⟨2, i, old, new⟩ else ⟨3, i, old, new⟩
theorem stepE_ok {i : Int} {old new : ByteArray} (h1 : 1 ≤ i) (h2 : i ≤ 99) (ho : old.toList = [] ∨ okSent old.toList = true) (hn : new.toList = [] ∨ okSent new.toList = true) : stepE i old new = noEdit ∨ (okEdit (stepE i old new) = true ∧ (stepE i old new).id = i ∧ (stepE i old new).kind ≠ 0 ∧ (stepE i old new).old = old) := by
  unfold stepE
  have hi : inB i 1 99 = true := inB_true h1 h2
  split
  · exact .inl rfl
  · rename_i hne
    right
    split
    · rename_i h0
      have hn' : okSent new.toList = true := hn.resolve_left (fun h => hne (by rw [h0, h]))
      exact ⟨by simp [okEdit, hi, h0, hn'], rfl, by simp, rfl⟩
    · rename_i h0
      have ho' := ho.resolve_left h0
      split
      · rename_i h3
        exact ⟨by simp [okEdit, hi, h3, ho'], rfl, by simp, rfl⟩
      · rename_i h3
        have hn' := hn.resolve_left h3
        exact ⟨by simp [okEdit, hi, ho', hn', hne], rfl, by simp, rfl⟩

/-- Two rising statutes without empty texts are the same if they find the same. -/
theorem find_ext : ∀ {s t : List Art}, RiseA s → RiseA t → (∀ a ∈ s, a.text ≠ ⟨#[]⟩) → (∀ a ∈ t, a.text ≠ ⟨#[]⟩) → (∀ i, findA s i = findA t i) → s = t
  | [], [], _, _, _, _, _ => rfl
  | [], b :: t, _, ht, _, hb, h => by
    have := h b.id
    rw [findA, findA, if_pos rfl] at this
    exact absurd this.symm (hb b List.mem_cons_self)
  | a :: s, [], _, _, ha, _, h => by
    have := h a.id
    rw [findA, findA, if_pos rfl] at this
    exact absurd this (ha a List.mem_cons_self)
  | a :: s, b :: t, hs, ht, ha, hb, h => by
    obtain ⟨hs1, hs2⟩ := List.pairwise_cons.1 hs
    obtain ⟨ht1, ht2⟩ := List.pairwise_cons.1 ht
    have hid : a.id = b.id := by
      rcases Int.lt_trichotomy a.id b.id with hlt | he | hgt
      · have e := h a.id
        rw [findA, if_pos rfl, findA, if_neg (by omega), findA_none (fun x hx => by have := ht1 x hx; omega)] at e
        exact absurd e (ha a List.mem_cons_self)
      · exact he
      · have e := h b.id
        rw [findA, if_neg (by omega), findA_none (fun x hx => by have := hs1 x hx; omega), findA, if_pos rfl] at e
        exact absurd e.symm (hb b List.mem_cons_self)
    have htx : a.text = b.text := by
      have e := h a.id
      rw [findA, if_pos rfl, findA, if_pos hid.symm] at e
      exact e
    have hab : a = b := by
      obtain ⟨i, x⟩ := a
      obtain ⟨j, y⟩ := b
      simp only at hid htx
      rw [hid, htx]
    rw [hab, find_ext hs2 ht2 (fun x hx => ha x (List.mem_cons_of_mem _ hx)) (fun x hx => hb x (List.mem_cons_of_mem _ hx)) (fun i => by
      by_cases hi : i = a.id
      · rw [findA_none (fun x hx => by have := hs1 x hx; omega), findA_none (fun x hx => by have := ht1 x hx; omega)]
      · have e := h i
        rw [findA, if_neg (by omega), findA, if_neg (by omega)] at e
        exact e)]
end Go.Proofs.Ytmgdodgofpapgaa

namespace Go.Proofs.Ytmgdodgofpapgaa
open Go.RowKit Go.Lib

theorem Try.infoA : (Try.prog.info? 70).map (fun i => (i.zero, i.size, i.bytes)) = some (some (.agg #[.int .i64 0, .string ⟨#[]⟩]), 2, 24) := by kernel_rfl
theorem art_one {q : Art} {u : Value} (h : u ∈ artCells q) : u.oneCell' = true := by
  unfold artCells at h
  rcases List.mem_cons.1 h with rfl | h
  · rfl
  · rcases List.mem_cons.1 h with rfl | h
    · rfl
    · cases h

theorem sent2_val (s : ByteArray) (w : World) (hs : s.size ≤ maxLen) (r : Bool) (h : okSent s.toList = r) : Calls Try.prog 62 #[.string s] w (RetQ (.bool r) w) := h ▸ sent2_any s w hs
theorem okArt_1 {a : Art} (h : inB a.id 1 99 = false) : okArt a = false := by unfold okArt; rw [h]; rfl
theorem okArt_2 {a : Art} (h : okSent a.text.toList = false) : okArt a = false := by unfold okArt; rw [h, Bool.and_false]
theorem okArt_3 {a : Art} (h1 : inB a.id 1 99 = true) (h2 : okSent a.text.toList = true) : okArt a = true := by unfold okArt; rw [h1, h2]; rfl

set_option maxHeartbeats 4000000 in
theorem stat2_any (es : List Art) (w : World) (v : Value) (h : Arts w w.heap.size v es) (hs : ∀ a ∈ es, a.text.size ≤ maxLen) :
    Calls Try.prog 36 #[v] w (RetB (.bool (okStat es)) w) := by
  obtain ⟨A, c, rfl, hc, hm, hel⟩ := h
  unfold maxLen at hm
  have hlm : es.length ≤ 9223372036854775807 := by omega
  have HEL := Lib.hid hel
  have HS := Lib.hid hs
  clear hel hs
  go_enter Try.func36, Try.ntmps36
  go_wp2
  go_loopw [3, 4, 7] (fun _ _ i wr => ∃ k : Nat, k ≤ es.length ∧ i = .int .i64 (k : Int) ∧ allLt k (statAt es) = true ∧ Below w.heap.size w wr) (fun _ _ i _ => es.length - (RowKit.intOf i).toNat)
  case atStart => exact ⟨0, Nat.zero_le _, rfl, rfl, Below.refl _ _⟩
  case round =>
    obtain ⟨k, hk, rfl, hall, hb⟩ := hrel
    have HA := Lib.hid hall
    clear hall
    by_cases hlt : k < es.length
    · obtain ⟨b, off, rfl, hblt, hcell⟩ := HEL.out (by omega)
      have hget : es[k]? = some es[k] := List.getElem?_eq_getElem hlt
      obtain ⟨c0, c1⟩ := arts_at hcell hget
      have x0 := (hb.cell (p := ⟨b, off + k * 2, none⟩) hblt).trans c0
      have x1 := (hb.cell (p := ⟨b, off + k * 2 + 1, none⟩) hblt).trans c1
      have HG := Lib.hid hget
      have HC := Lib.hid hcell
      have hso := HS.out es[k] (List.getElem_mem hlt)
      clear hget hcell c0 c1
      generalize es[k] = e at *
      cases ho1 : inB e.id 1 99 with
      | false =>
        have H1 := Lib.hid ho1
        have H2 : Hid (okSent e.text.toList = okSent e.text.toList) := Lib.hid rfl
        have HB := Lib.hid (okStat_bad hlt (statAt_bad HG.out (okArt_1 ho1)))
        clear ho1
        go_upto_region 4 with (fail)
        obtain ⟨W, hW⟩ : ∃ W : World, W = wr.alloc (.cells (artCells e).toArray 70) := ⟨_, rfl⟩
        change Code.wp _ _ _ _ (wr.alloc (.cells (artCells e).toArray 70))
        have bW : Below w.heap.size w W := by rw [hW]; exact hb.alloc hb.size _
        have y0 : W.cell? ⟨wr.heap.size, 0, none⟩ = some (.int .i64 e.id) := by rw [hW]; simp [go_sem, artCells]
        have y1 : W.cell? ⟨wr.heap.size, 1, none⟩ = some (.string e.text) := by rw [hW]; simp [go_sem, artCells]
        rw [← hW]
        clear hW x0 x1
        have z0 := fun x : Aft W => x.cell y0
        have z1 := fun x : Aft W => x.cell y1
        clear y0 y1
        refine wp_region_aft (by kernel_rfl) (by kernel_rfl) ?_
        repeat (go_big_quiet_step ((first | (go_at_call 46; exact aft_q (in2_val _ _ _ _ false H1.out)) | (go_at_call 62; exact aft_q (sent2_val _ _ hso _ H2.out)))))
        refine wpQuiet_nil ?_
        rintro _ ⟨y, rfl⟩
        have bY := bW.trans (y.ok.mono bW.size)
        go_wp2
        go_ret
        exact ⟨by rw [HB.out]; rfl, bY⟩
      | true =>
        have H1 := Lib.hid ho1
        cases ho2 : okSent e.text.toList with
        | false =>
          have H2 := Lib.hid ho2
          have HB := Lib.hid (okStat_bad hlt (statAt_bad HG.out (okArt_2 ho2)))
          clear ho1 ho2
          go_upto_region 4 with (fail)
          obtain ⟨W, hW⟩ : ∃ W : World, W = wr.alloc (.cells (artCells e).toArray 70) := ⟨_, rfl⟩
          change Code.wp _ _ _ _ (wr.alloc (.cells (artCells e).toArray 70))
          have bW : Below w.heap.size w W := by rw [hW]; exact hb.alloc hb.size _
          have y0 : W.cell? ⟨wr.heap.size, 0, none⟩ = some (.int .i64 e.id) := by rw [hW]; simp [go_sem, artCells]
          have y1 : W.cell? ⟨wr.heap.size, 1, none⟩ = some (.string e.text) := by rw [hW]; simp [go_sem, artCells]
          rw [← hW]
          clear hW x0 x1
          have z0 := fun x : Aft W => x.cell y0
          have z1 := fun x : Aft W => x.cell y1
          clear y0 y1
          refine wp_region_aft (by kernel_rfl) (by kernel_rfl) ?_
          repeat (go_big_quiet_step ((first | (go_at_call 46; exact aft_q (in2_val _ _ _ _ true H1.out)) | (go_at_call 62; exact aft_q (sent2_val _ _ hso false H2.out)))))
          refine wpQuiet_nil ?_
          rintro _ ⟨y, rfl⟩
          have bY := bW.trans (y.ok.mono bW.size)
          go_wp2
          go_ret
          exact ⟨by rw [HB.out]; rfl, bY⟩
        | true =>
          have H2 := Lib.hid ho2
          have HO := Lib.hid (okArt_3 ho1 ho2)
          clear ho1 ho2
          have HSU := allLt_succ k (statAt es)
          rw [HA.out, Bool.true_and] at HSU
          have HSU := Lib.hid HSU
          by_cases hk0 : k = 0
          · have HN : Hid (allLt (k + 1) (statAt es) = true) := HSU.out.trans (statAt_zero hk0 HG.out HO.out)
            have hk1 : decide ((0 : Int) < (k : Int)) = false := by simp; omega
            have hk2 : decide (0 < k) = false := by simp; omega
            clear hk0
            go_upto_region 4 with (fail)
            obtain ⟨W, hW⟩ : ∃ W : World, W = wr.alloc (.cells (artCells e).toArray 70) := ⟨_, rfl⟩
            change Code.wp _ _ _ _ (wr.alloc (.cells (artCells e).toArray 70))
            have bW : Below w.heap.size w W := by rw [hW]; exact hb.alloc hb.size _
            have y0 : W.cell? ⟨wr.heap.size, 0, none⟩ = some (.int .i64 e.id) := by rw [hW]; simp [go_sem, artCells]
            have y1 : W.cell? ⟨wr.heap.size, 1, none⟩ = some (.string e.text) := by rw [hW]; simp [go_sem, artCells]
            rw [← hW]
            clear hW x0 x1
            have z0 := fun x : Aft W => x.cell y0
            have z1 := fun x : Aft W => x.cell y1
            clear y0 y1
            refine wp_region_aft (by kernel_rfl) (by kernel_rfl) ?_
            repeat (go_big_quiet_step ((first | (go_at_call 46; exact aft_q (in2_val _ _ _ _ true H1.out)) | (go_at_call 62; exact aft_q (sent2_val _ _ hso true H2.out)))))
            refine wpQuiet_nil ?_
            rintro _ ⟨y, rfl⟩
            have bY := bW.trans (y.ok.mono bW.size)
            go_wp2
            go_roundw
            case rel => exact ⟨k + 1, by omega, by go_num, HN.out, bY⟩
            case measure => simp [RowKit.intOf]; omega
          · obtain ⟨m, rfl⟩ : ∃ m, k = m + 1 := ⟨k - 1, by omega⟩
            have hd : es[m]? = some (es[m]'(by omega)) := List.getElem?_eq_getElem (by omega)
            obtain ⟨d1, _⟩ := arts_at HC.out hd
            generalize (es[m]'(by omega)) = d at *
            have HP := Lib.hid (statAt_succ hd HG.out HO.out)
            clear hd hk0
            by_cases hid : d.id < e.id
            · have HN : Hid (allLt (m + 1 + 1) (statAt es) = true) := HSU.out.trans (HP.out.trans (decide_eq_true hid))
              have hid2 : ¬ (e.id ≤ d.id) := by omega
              go_upto_region 4 with (fail)
              obtain ⟨W, hW⟩ : ∃ W : World, W = wr.alloc (.cells (artCells e).toArray 70) := ⟨_, rfl⟩
              change Code.wp _ _ _ _ (wr.alloc (.cells (artCells e).toArray 70))
              have bW : Below w.heap.size w W := by rw [hW]; exact hb.alloc hb.size _
              have y0 : W.cell? ⟨wr.heap.size, 0, none⟩ = some (.int .i64 e.id) := by rw [hW]; simp [go_sem, artCells]
              have y1 : W.cell? ⟨wr.heap.size, 1, none⟩ = some (.string e.text) := by rw [hW]; simp [go_sem, artCells]
              rw [← hW]
              clear hW x0 x1
              have z0 := fun x : Aft W => x.cell y0
              have z1 := fun x : Aft W => x.cell y1
              clear y0 y1
              have y4 : W.cell? ⟨b, off + m * 2, none⟩ = some (.int .i64 d.id) := (bW.cell (p := ⟨b, off + m * 2, none⟩) hblt).trans d1
              have z4 := fun x : Aft W => x.cell y4
              clear d1 y4
              refine wp_region_aft (by kernel_rfl) (by kernel_rfl) ?_
              repeat (go_big_quiet_step ((first | (go_at_call 46; exact aft_q (in2_val _ _ _ _ true H1.out)) | (go_at_call 62; exact aft_q (sent2_val _ _ hso true H2.out)))))
              refine wpQuiet_nil ?_
              rintro _ ⟨y, rfl⟩
              have bY := bW.trans (y.ok.mono bW.size)
              go_wp2
              go_roundw
              case rel => exact ⟨(m + 1) + 1, by omega, by go_num, HN.out, bY⟩
              case measure => simp [RowKit.intOf]; omega
            · have HB := Lib.hid (okStat_bad hlt (HP.out.trans (decide_eq_false hid)))
              have hid2 : e.id ≤ d.id := by omega
              go_upto_region 4 with (fail)
              obtain ⟨W, hW⟩ : ∃ W : World, W = wr.alloc (.cells (artCells e).toArray 70) := ⟨_, rfl⟩
              change Code.wp _ _ _ _ (wr.alloc (.cells (artCells e).toArray 70))
              have bW : Below w.heap.size w W := by rw [hW]; exact hb.alloc hb.size _
              have y0 : W.cell? ⟨wr.heap.size, 0, none⟩ = some (.int .i64 e.id) := by rw [hW]; simp [go_sem, artCells]
              have y1 : W.cell? ⟨wr.heap.size, 1, none⟩ = some (.string e.text) := by rw [hW]; simp [go_sem, artCells]
              rw [← hW]
              clear hW x0 x1
              have z0 := fun x : Aft W => x.cell y0
              have z1 := fun x : Aft W => x.cell y1
              clear y0 y1
              have y4 : W.cell? ⟨b, off + m * 2, none⟩ = some (.int .i64 d.id) := (bW.cell (p := ⟨b, off + m * 2, none⟩) hblt).trans d1
              have z4 := fun x : Aft W => x.cell y4
              clear d1 y4
              refine wp_region_aft (by kernel_rfl) (by kernel_rfl) ?_
              repeat (go_big_quiet_step ((first | (go_at_call 46; exact aft_q (in2_val _ _ _ _ true H1.out)) | (go_at_call 62; exact aft_q (sent2_val _ _ hso true H2.out)))))
              refine wpQuiet_nil ?_
              rintro _ ⟨y, rfl⟩
              have bY := bW.trans (y.ok.mono bW.size)
              go_wp2
              go_ret
              exact ⟨by rw [HB.out]; rfl, bY⟩
    · have hk' : k = es.length := by omega
      have hP : okStat es = decide (es.length ≤ 8) := by
        unfold okStat
        rw [← hk', HA.out, Bool.true_and]
      have HP := Lib.hid hP
      have hge : ¬ (k : Int) < (es.length : Int) := by omega
      clear hP hk' hlt
      by_cases h16 : es.length ≤ 8
      · have e16 : decide ((es.length : Int) ≤ 8) = true := by simp; omega
        have H16 := Lib.hid h16
        clear h16
        go_wp2
        go_ret
        exact ⟨by rw [HP.out]; simp [H16.out], hb⟩
      · have e16 : decide ((es.length : Int) ≤ 8) = false := by simp; omega
        have H16 := Lib.hid h16
        clear h16
        go_wp2
        go_ret
        exact ⟨by rw [HP.out]; simp [H16.out], hb⟩
end Go.Proofs.Ytmgdodgofpapgaa

namespace Go.Proofs.Ytmgdodgofpapgaa
open Go.RowKit

/-- The bytes of a slice that came in: below block B, n of them. -/
def BytesAt (w : World) (B : Nat) (A : Option Addr) (n : Nat) : Prop :=
  n ≤ maxLen ∧ (0 < n → ∃ b off, A = some ⟨b, off, none⟩ ∧ b < B ∧ ∀ i, i < n → ∃ x : Nat, x ≤ 255 ∧ w.cell? ⟨b, off + i, none⟩ = some (.int .u8 x))

/-- Block b is a source with at most k draws behind it. -/
def Src (B : Nat) (w : World) (b : Nat) (k : Nat) : Prop :=
  ∃ (A : Option Addr) (n c p : Nat) (q : Int), w.heap[b]? = some (.cells #[.slice A n c, .int .i64 (p : Int), .int .u64 q] 80 (0, 0)) ∧ B ≤ b ∧ p ≤ k ∧ 0 ≤ q ∧ q < 18446744073709551616 ∧ BytesAt w B A n

def NextPost (B : Nat) (w : World) (b k : Nat) (e : Ending) (w' : World) : Prop :=
  ∃ x : Nat, x ≤ 255 ∧ e = .returned (.int .i64 (x : Int)) ∧ Src B w' b (k + 1) ∧ Only b w w'

theorem bytesAt_below {w w' : World} {B : Nat} {A : Option Addr} {n : Nat} (h : BytesAt w B A n) (hb : Below B w w') : BytesAt w' B A n :=
  ⟨h.1, fun hn => by
    obtain ⟨b, off, rfl, hlt, hc⟩ := h.2 hn
    exact ⟨b, off, rfl, hlt, fun i hi => by
      obtain ⟨x, hx, hx'⟩ := hc i hi
      exact ⟨x, hx, (hb.cell (p := ⟨b, off + i, none⟩) hlt).trans hx'⟩⟩⟩

theorem src_end {w : World} {b B k : Nat} {A : Option Addr} {n c p : Nat} (p' : Nat) {pi q q' : Int} (n1 n2 : Nat) (hpi : pi = (p' : Int))
    (hb : w.heap[b]? = some (.cells #[.slice A n c, .int .i64 (p : Int), .int .u64 q] 80 (0, 0))) (hB : B ≤ b) (hA : BytesAt w B A n) (hp : p' ≤ k) (hq : 0 ≤ q') (hq' : q' < 18446744073709551616) :
    Src B ((((w.drewN n1).setCell ⟨b, 1, none⟩ (.int .i64 pi)).setCell ⟨b, 2, none⟩ (.int .u64 q')).drewN n2) b k ∧ Only b w ((((w.drewN n1).setCell ⟨b, 1, none⟩ (.int .i64 pi)).setCell ⟨b, 2, none⟩ (.int .u64 q')).drewN n2) := by
  have hlt : b < w.heap.size := by
    rcases Nat.lt_or_ge b w.heap.size with h | h
    · exact h
    · rw [Array.getElem?_eq_none h] at hb; cases hb
  have ho : Only b w ((((w.drewN n1).setCell ⟨b, 1, none⟩ (.int .i64 pi)).setCell ⟨b, 2, none⟩ (.int .u64 q')).drewN n2) :=
    only_drewN (only_setCell (only_setCell (only_drewN (only_refl b w) n1) (.inl rfl) _) (.inl rfl) _) n2
  refine ⟨⟨A, n, c, p', q', ?_, hB, hp, hq, hq', bytesAt_below hA (only_below ho hB (by omega))⟩, ho⟩
  show ((((w.drewN n1).setCell ⟨b, 1, none⟩ (.int .i64 pi)).setCell ⟨b, 2, none⟩ (.int .u64 q'))).heap[b]? = _
  simp [World.setCell, Array.getElem?_modify, hb, hpi]

theorem wrap_u64_lo (x : Int) : 0 ≤ IntKind.u64.wrap x ∧ IntKind.u64.wrap x < 18446744073709551616 := by
  rw [IntKind.wrap_u64]; omega

theorem wrap_u64_twice (z : Int) : IntKind.u64.wrap (IntKind.u64.wrap z) = IntKind.u64.wrap z := by
  simp only [IntKind.wrap_u64]; omega

theorem low_byte (z : Int) (hz : z = IntKind.u64.wrap z := by first | rfl | exact (wrap_u64_twice _).symm) : ∃ y : Nat, y ≤ 255 ∧ wrap64 (bits BinOp.and IntKind.u64 (z / 1099511627776) 255) = (y : Int) := by
  have h := wrap_u64_lo z
  rw [← hz] at h
  have h2 : (z / 1099511627776).toNat &&& (255 : Int).toNat ≤ 255 := Nat.and_le_right
  refine ⟨(z / 1099511627776).toNat &&& (255 : Int).toNat, h2, ?_⟩
  rw [u64_and _ _ (by omega) (by omega) (by omega) (by omega)]
  unfold wrap64
  omega

set_option maxHeartbeats 400000 in
theorem next_in (B b k p : Nat) (q : Int) (g off n c x : Nat) (w : World) (hb : w.heap[b]? = some (.cells #[.slice (some ⟨g, off, none⟩) n c, .int .i64 (p : Int), .int .u64 q] 80 (0, 0)))
    (hB : B ≤ b) (hpk : p ≤ k) (hA : BytesAt w B (some ⟨g, off, none⟩) n)
    (hp : p < n) (hx : x ≤ 255) (hc : w.cell? ⟨g, off + p, none⟩ = some (.int .u8 (x : Int))) :
    Calls Try.prog 79 #[.pointer (some ⟨b, 0, none⟩)] w (NextPost B w b k) := by
  have hn := hA.1
  unfold maxLen at hn
  have c0 : w.cell? ⟨b, 0, none⟩ = some (.slice (some ⟨g, off, none⟩) n c) := by simp [World.cell?, hb]
  have c1 : w.cell? ⟨b, 1, none⟩ = some (.int .i64 (p : Int)) := by simp [World.cell?, hb]
  have c2 : w.cell? ⟨b, 2, none⟩ = some (.int .u64 q) := by simp [World.cell?, hb]
  have f1 : w.frozen? ⟨b, 1, none⟩ = false := by simp [World.frozen?, hb]
  have f2 : w.frozen? ⟨b, 2, none⟩ = false := by simp [World.frozen?, hb]
  have hp0 : (p : Int) < (n : Int) := by omega
  have hp1 : (0 : Int) ≤ (p : Int) := by omega
  have hp2 : (p : Int) + 1 ≤ (n : Int) := by omega
  have Hb := Lib.hid hb
  have HA := Lib.hid hA
  clear hb hA
  go_enter Try.func79, Try.ntmps79
  go_wp2
  go_quiet (fail)
  go_wp2
  go_quiet (fail)
  go_wp2
  go_quiet (fail)
  go_wp2
  go_ret
  exact ⟨x, hx, rfl, src_end (p + 1) _ _ (by omega) Hb.out hB HA.out (by omega) (wrap_u64_lo _).1 (wrap_u64_lo _).2⟩

set_option maxHeartbeats 400000 in
theorem next_out (B b k p : Nat) (q : Int) (A : Option Addr) (n c : Nat) (w : World) (hb : w.heap[b]? = some (.cells #[.slice A n c, .int .i64 (p : Int), .int .u64 q] 80 (0, 0)))
    (hB : B ≤ b) (hpk : p ≤ k) (hk : k ≤ 60000) (hA : BytesAt w B A n) (hp : n ≤ p) :
    Calls Try.prog 79 #[.pointer (some ⟨b, 0, none⟩)] w (NextPost B w b k) := by
  have hn := hA.1
  unfold maxLen at hn
  have c0 : w.cell? ⟨b, 0, none⟩ = some (.slice A n c) := by simp [World.cell?, hb]
  have c1 : w.cell? ⟨b, 1, none⟩ = some (.int .i64 (p : Int)) := by simp [World.cell?, hb]
  have c2 : w.cell? ⟨b, 2, none⟩ = some (.int .u64 q) := by simp [World.cell?, hb]
  have f1 : w.frozen? ⟨b, 1, none⟩ = false := by simp [World.frozen?, hb]
  have f2 : w.frozen? ⟨b, 2, none⟩ = false := by simp [World.frozen?, hb]
  have hd : decide (p < n) = false := by simp; omega
  have H1 : Hid (p ≤ 60000 ∧ n ≤ p ∧ p ≤ k) := ⟨by omega, hp, hpk⟩
  have Hb := Lib.hid hb
  have HA := Lib.hid hA
  clear hb hA hp hpk hk
  go_enter Try.func79, Try.ntmps79
  go_wp2
  go_quiet (fail)
  go_upto_region 4 with (fail)
  go_cut [3] (fun s3 wx => ∃ x : Nat, x ≤ 255 ∧ s3 = .int .i64 (x : Int) ∧ ∃ m, wx = (w.drewN m).setCell ⟨b, 1, none⟩ (.int .i64 ((p : Int) + 1)))
  case first =>
    have hp1 : (0 : Int) ≤ (p : Int) := by omega
    have hp2 : (p : Int) ≤ 60000 := by have := H1.out; omega
    go_wp2_with (fail)
    go_meet
    exact ⟨0, by omega, rfl, _, rfl⟩
  case rest =>
    obtain ⟨x, hx, rfl, m, rfl⟩ := hcut
    clear hd
    have hp1 : (0 : Int) ≤ (p : Int) := by omega
    have hp2 : (p : Int) ≤ 60000 := by have := H1.out; omega
    have hd : decide ((p : Int) + 1 ≤ (n : Int)) = false := by have := H1.out; simp; omega
    go_wp2
    go_quiet (fail)
    go_wp2
    go_ret
    obtain ⟨y, hy, e⟩ := low_byte (IntKind.u64.wrap (IntKind.u64.wrap (IntKind.u64.wrap (q * 6364136223846793005) + x) + 1442695040888963407))
    exact ⟨y, hy, ret_i64 e, src_end (p + 1) _ _ (by omega) Hb.out hB HA.out (by have := H1.out; omega) (wrap_u64_lo _).1 (wrap_u64_lo _).2⟩

set_option maxHeartbeats 400000 in
theorem next_any (B b k : Nat) (w : World) (h : Src B w b k) (hk : k ≤ 60000) :
    Calls Try.prog 79 #[.pointer (some ⟨b, 0, none⟩)] w (NextPost B w b k) := by
  obtain ⟨A, n, c, p, q, hb, hB, hp, hq, hq', hA⟩ := h
  rcases Nat.lt_or_ge p n with hlt | hge
  · obtain ⟨g, off, rfl, hg, hc⟩ := hA.2 (by omega)
    obtain ⟨x, hx, hx'⟩ := hc p hlt
    exact next_in B b k p q g off n c x w hb hB hp hA hlt hx hx'
  · exact next_out B b k p q A n c w hb hB hp hk hA hge

theorem Src.more {B : Nat} {w : World} {b k k' : Nat} (h : Src B w b k) (hk : k ≤ k') : Src B w b k' := by
  obtain ⟨A, n, c, p, q, h1, h2, h3, h4⟩ := h
  exact ⟨A, n, c, p, q, h1, h2, by omega, h4⟩

def PickPost (B : Nat) (w : World) (b k : Nat) (n : Int) (e : Ending) (w' : World) : Prop :=
  ∃ x : Int, 0 ≤ x ∧ (x = 0 ∨ x < n) ∧ e = .returned (.int .i64 x) ∧ Src B w' b (k + 2) ∧ Only b w w'

theorem tmod_lt (a n : Int) (h0 : 0 ≤ a) (hn : 1 < n) : 0 ≤ a.tmod n ∧ a.tmod n < n := by
  rw [Int.tmod_eq_emod_of_nonneg h0]
  exact ⟨Int.emod_nonneg _ (by omega), Int.emod_lt_of_pos _ (by omega)⟩

set_option maxHeartbeats 400000 in
theorem pick_any (B b k : Nat) (n : Int) (w : World) (h : Src B w b k) (hk : k ≤ 59000) (hn : n ≤ 65536) (hn0 : -65536 ≤ n) :
    Calls Try.prog 52 #[.pointer (some ⟨b, 0, none⟩), .int .i64 n] w (PickPost B w b k n) := by
  by_cases h1 : n ≤ 1
  · go_enter Try.func52, Try.ntmps52
    go_wp2
    go_ret
    exact ⟨0, by omega, .inl rfl, rfl, h.more (by omega), only_refl _ _⟩
  · have h1 : 1 < n := by omega
    by_cases h2 : n ≤ 200
    · have H := Lib.hid h
      clear h
      go_enter Try.func52, Try.ntmps52
      go_wp2_with (fail)
      refine (next_any B b k w H.out (by omega)).mono ?_
      rintro e w1 ⟨x, hx, rfl, hs, ho⟩
      have Hs := Lib.hid hs
      clear hs
      go_wp2
      go_ret
      exact ⟨(x : Int) % n, Int.emod_nonneg _ (by omega), .inr (Int.emod_lt_of_pos _ (by omega)), rfl, Hs.out.more (by omega), ho⟩
    · have h2 : 200 < n := by omega
      have H := Lib.hid h
      clear h
      go_enter Try.func52, Try.ntmps52
      go_wp2_with (fail)
      refine (next_any B b k w H.out (by omega)).mono ?_
      rintro e w1 ⟨x, hx, rfl, hs, ho⟩
      have Hs := Lib.hid hs
      clear hs
      go_wp2_with (fail)
      refine (next_any B b (k + 1) w1 Hs.out (by omega)).mono ?_
      rintro e w2 ⟨y, hy, rfl, hs2, ho2⟩
      have Hs2 := Lib.hid hs2
      clear hs2
      go_wp2
      go_ret
      exact ⟨((x : Int) * 256 + y) % n, Int.emod_nonneg _ (by omega), .inr (Int.emod_lt_of_pos _ (by omega)), rfl, Hs2.out.more (by omega), only_trans ho ho2⟩

/-- A number n above 1 is picked from: the pick lies in 0 .. n - 1. -/
theorem pick_pos (B b k : Nat) (n : Int) (w : World) (h : Src B w b k) (hk : k ≤ 59000) (hn : n ≤ 65536) (hn0 : 1 ≤ n) :
    Calls Try.prog 52 #[.pointer (some ⟨b, 0, none⟩), .int .i64 n] w fun e w' => ∃ x : Nat, (x : Int) < n ∧ e = .returned (.int .i64 (x : Int)) ∧ Src B w' b (k + 2) ∧ Only b w w' :=
  (pick_any B b k n w h hk hn (by omega)).mono fun e w' ⟨x, h0, hx, he, hs, ho⟩ => ⟨x.toNat, by omega, by rw [he]; exact ret_i64 (by omega), hs, ho⟩

def OnePost (B : Nat) (w : World) (b k : Nat) (e : Ending) (w' : World) : Prop :=
  ∃ x : Bool, e = .returned (.bool x) ∧ Src B w' b (k + 2) ∧ Only b w w'

set_option maxHeartbeats 400000 in
theorem one_any (B b k : Nat) (n : Int) (w : World) (h : Src B w b k) (hk : k ≤ 59000) (hn : n ≤ 65536) (hn0 : -65536 ≤ n) :
    Calls Try.prog 27 #[.pointer (some ⟨b, 0, none⟩), .int .i64 n] w (OnePost B w b k) := by
  have H := Lib.hid h
  clear h
  go_enter Try.func27, Try.ntmps27
  go_wp2_with (fail)
  refine (pick_any B b k n w H.out hk hn hn0).mono ?_
  rintro e w1 ⟨x, hx, _, rfl, hs, ho⟩
  have Hs := Lib.hid hs
  clear hs
  go_wp2
  go_ret
  exact ⟨_, rfl, Hs.out, ho⟩

def FromPost (w : World) (e : Ending) (w' : World) : Prop :=
  e = .returned (.pointer (some ⟨w.heap.size, 0, none⟩)) ∧ Src w.heap.size w' w.heap.size 0 ∧ Below w.heap.size w w'

set_option maxHeartbeats 400000 in
theorem from_any (A : Option Addr) (n c : Nat) (w : World) (h : BytesAt w w.heap.size A n) :
    Calls Try.prog 23 #[.slice A n c] w (FromPost w) := by
  have H := Lib.hid h
  clear h
  go_enter Try.func23, Try.ntmps23
  go_wp2
  go_ret
  have hb := (Below.refl w.heap.size w).alloc (Nat.le_refl _) (.cells #[.slice A n c, .int .i64 0, .int .u64 0] 80)
  refine ⟨rfl, ⟨A, n, c, 0, 0, ?_, Nat.le_refl _, Nat.le_refl _, by omega, by omega, bytesAt_below H.out hb⟩, hb⟩
  show (w.heap.push _)[w.heap.size]? = _
  simp
end Go.Proofs.Ytmgdodgofpapgaa

namespace Go.Proofs.Ytmgdodgofpapgaa
open Go.RowKit Go.Lib

theorem Src.keep {B b k : Nat} {w w' : World} (h : Src B w b k) (hb : w'.heap[b]? = w.heap[b]?) (hB : ∀ i, i < B → w'.heap[i]? = w.heap[i]?) : Src B w' b k := by
  obtain ⟨A, n, c, p, q, h1, h2, h3, h4, h5, h6⟩ := h
  refine ⟨A, n, c, p, q, by rw [hb]; exact h1, h2, h3, h4, h5, h6.1, fun hn => ?_⟩
  obtain ⟨g, off, rfl, hlt, hc⟩ := h6.2 hn
  exact ⟨g, off, rfl, hlt, fun i hi => by
    obtain ⟨x, hx, hxc⟩ := hc i hi
    exact ⟨x, hx, by rw [World.cell?_of_block (hB g hlt)]; exact hxc⟩⟩
theorem Src.lt {B b k : Nat} {w : World} (h : Src B w b k) : b < w.heap.size ∧ B ≤ b := by
  obtain ⟨A, n, c, p, q, h1, h2, _⟩ := h
  exact ⟨(Array.getElem?_eq_some_iff.1 h1).1, h2⟩
theorem Src.below {B b k D : Nat} {w w' : World} (h : Src B w b k) (hb : Below D w w') (hD : b < D) : Src B w' b k :=
  h.keep (hb.block b hD) (fun i hi => hb.block i (by have := h.lt.2; omega))
theorem Src.alloc {B b k : Nat} {w : World} (h : Src B w b k) (o : Obj) : Src B (w.alloc o) b k :=
  h.below ((Below.refl w.heap.size w).alloc (Nat.le_refl _) o) h.lt.1
theorem Src.drewN {B b k : Nat} {w : World} (h : Src B w b k) (n : Nat) : Src B (w.drewN n) b k := h.below (below_drewN (Below.refl w.heap.size w) n) h.lt.1
theorem only_of_below {b : Nat} {w w' : World} (h : Below w.heap.size w w') : Only b w w' := ⟨h.os, h.tape, h.output, h.size, fun i hi _ => h.block i hi⟩
theorem only_below' {b D : Nat} {a w w' : World} (h : Only b a w) (hb : Below D w w') (hD : a.heap.size ≤ D) : Only b a w' :=
  ⟨hb.os.trans h.os, hb.tape.trans h.tape, hb.output.trans h.output, Nat.le_trans h.size hb.size, fun i hi hn => (hb.block i (Nat.lt_of_lt_of_le hi hD)).trans (h.block i hi hn)⟩
theorem only_alloc {b : Nat} {a w : World} (h : Only b a w) (o : Obj) : Only b a (w.alloc o) := only_below' h ((Below.refl w.heap.size w).alloc (Nat.le_refl _) o) h.size
theorem only_grown {b : Nat} {a w w' : World} {row : Option Nat} (h : Only b a w) (hg : w.grownBy w' row) (hr : ∀ j, row = some j → a.heap.size ≤ j) : Only b a w' :=
  ⟨hg.os.trans h.os, hg.tape.trans h.tape, hg.output.trans h.output, Nat.le_trans h.size hg.size, fun i hi hn => (hg.block i (Nat.lt_of_lt_of_le hi h.size) (fun e => by have := hr i e.symm; omega)).trans (h.block i hi hn)⟩
theorem Src.grown {B b k : Nat} {w w' : World} {row : Option Nat} (h : Src B w b k) (hg : w.grownBy w' row) (hr : ∀ j, row = some j → b < j) : Src B w' b k :=
  h.keep (hg.block b h.lt.1 (fun e => by have := hr b e.symm; omega)) (fun i hi => hg.block i (by have := h.lt; omega) (fun e => by have := hr i e.symm; have := h.lt; omega))
theorem own_only {w w' : World} {base b n size : Nat} {e : TypeId} {v : Value} {xs : List Value} (h : w.ownsRow base e size v n xs) (hb : b < base) (ho : Only b w w') : w'.ownsRow base e size v n xs :=
  h.kept ho (by
    rcases hv : v.ownBlock with _ | g
    · exact .inl rfl
    · right
      intro e
      injection e with e
      have := (h.lt g hv).1
      omega)
theorem Row.only {w w' : World} {g b : Nat} {L : List Value} (h : Row w g L) (hg : g < w.heap.size) (hne : g ≠ b) (ho : Only b w w') : Row w' g L where
  cell := fun j u hj => (only_cells ho g j hg hne).1.trans (h.cell j u hj)
  free := fun j hj => (only_cells ho g j hg hne).2.trans (h.free j hj)
theorem OwnL.only {α : Type} {f : α → List Value} {xs : List α} {base b : Nat} {w w' : World} {v : Value} (h : OwnL f xs base w v) (hb : b < base) (ho : Only b w w') : OwnL f xs base w' v := by
  obtain ⟨A, c, rfl, h1, h2, h3⟩ := h
  refine ⟨A, c, rfl, h1, h2, fun h0 => ?_⟩
  obtain ⟨g, e, hg, hlt, hr⟩ := h3 h0
  exact ⟨g, e, hg, Nat.lt_of_lt_of_le hlt ho.size, hr.only hlt (by omega) ho⟩
theorem SlR.only {α : Type} {f : α → List Value} {size B b : Nat} {w w' : World} {v : Value} {xs : List α} (h : SlR (Pl f) size w B v xs) (hb : B ≤ w.heap.size) (hs : B ≤ b) (ho : Only b w w') : SlR (Pl f) size w' B v xs := by
  obtain ⟨A, c, rfl, h1, h2, h3⟩ := h
  refine ⟨A, c, rfl, h1, h2, fun h0 => ?_⟩
  obtain ⟨g, off, e, hlt, hc⟩ := h3 h0
  refine ⟨g, off, e, hlt, fun k x hx => ?_⟩
  obtain ⟨us, hl, hp, hcell⟩ := hc k x hx
  exact ⟨us, hl, hp, fun j u hj => (only_cells ho g _ (by omega) (by omega)).1.trans (hcell j u hj)⟩

/-- A draw of a text of a kind. -/
def TextPost (p : List UInt8 → Prop) (B : Nat) (w : World) (b k : Nat) (e : Ending) (w' : World) : Prop :=
  ∃ l, p l ∧ e = .returned (.string ⟨l.toArray⟩) ∧ Src B w' b k ∧ Only b w w'

set_option maxHeartbeats 400000 in
theorem text_any (p : List UInt8 → Prop) (B b k g n c : Nat) (w : World) (h : Src B w b k) (hk : k ≤ 58000) (hn : 1 ≤ n) (hn' : n ≤ 60000) (hg : g < w.heap.size) (hgb : g ≠ b)
    (hc : ∀ j, j < n → ∃ l : List UInt8, p l ∧ w.cell? ⟨g, j, none⟩ = some (.string ⟨l.toArray⟩)) :
    Calls Try.prog 80 #[.pointer (some ⟨b, 0, none⟩), .slice (some ⟨g, 0, none⟩) n c] w (TextPost p B w b (k + 2)) := by
  have H := Lib.hid h
  have HC := Lib.hid hc
  clear h hc
  go_enter Try.func80, Try.ntmps80
  go_wp2_with (fail)
  refine (pick_pos B b k n w H.out (by omega) (by omega) (by omega)).mono ?_
  rintro e w1 ⟨x, hx, rfl, hs, ho⟩
  have Hs := Lib.hid hs
  have hx' : x < n := by omega
  obtain ⟨l, hp, hl⟩ := HC.out x hx'
  have x0 : w1.cell? ⟨g, x, none⟩ = some (.string ⟨l.toArray⟩) := (only_cells ho g x hg hgb).1.trans hl
  have HP := Lib.hid hp
  have HO := Lib.hid ho
  clear hs hl hp ho
  go_wp2
  go_ret
  exact ⟨l, HP.out, rfl, Hs.out, HO.out⟩

set_option maxHeartbeats 400000 in
theorem drawSent_any (B b k : Nat) (w : World) (h : Src B w b k) (hk : k ≤ 58000) :
    Calls Try.prog 53 #[.pointer (some ⟨b, 0, none⟩)] w (TextPost (fun l => okSent l = true) B w b (k + 2)) := by
  have H := Lib.hid h
  clear h
  go_enter Try.func53, Try.ntmps53
  go_wp2_with (fail)
  refine (text_any (fun l => okSent l = true) B b k w.heap.size 10 10 _ (H.out.alloc _) hk (by omega) (by omega) (by simp) (by have := H.out.lt.1; omega) ?_).mono ?_
  · intro j hj
    have hcell : ∀ (L : List (List UInt8)), (∀ l ∈ L, okSent l = true) → j < L.length → ∃ l, okSent l = true ∧ (w.alloc (.cells (L.map (fun l => Value.string ⟨l.toArray⟩)).toArray 9)).cell? ⟨w.heap.size, j, none⟩ = some (.string ⟨l.toArray⟩) := fun L hL hj => by
      refine ⟨L[j], hL _ (List.getElem_mem hj), ?_⟩
      have := (Row.new w (L.map (fun l => Value.string ⟨l.toArray⟩)).toArray 9).cell j (.string ⟨L[j].toArray⟩) (by simp [List.getElem?_eq_getElem hj])
      exact this
    exact hcell [[97], [98], [100, 111, 103, 115, 32, 97, 114, 101, 32, 108, 101, 100], [100, 111, 103, 115, 32, 97, 114, 101, 32, 102, 114, 101, 101], [116, 104, 101, 32, 103, 97, 116, 101, 32, 105, 115, 32, 115, 104, 117, 116], [114, 117, 108, 101, 32, 55], [112, 97, 121, 32, 51, 32, 97, 32, 121, 101, 97, 114], [120, 32, 121, 32, 122], [97, 98, 99, 100, 101, 102, 103, 104, 105, 106, 107, 108, 109, 110, 111, 112, 113, 114, 115, 116, 117, 118, 119, 120], [110, 111]] (by decide) hj
  rintro e w1 ⟨l, hp, rfl, hs, ho⟩
  have Hs := Lib.hid hs
  have HO : Hid (Only b w w1) := Lib.hid (only_trans (only_of_below ((Below.refl w.heap.size w).alloc (Nat.le_refl _) _)) ho)
  have HP := Lib.hid hp
  clear hs ho hp
  go_wp2
  go_ret
  exact ⟨l, HP.out, rfl, Hs.out, HO.out⟩

set_option maxHeartbeats 1000000 in
theorem find1_any (es : List Art) (q : Int) (w : World) (v : Value) (h : Arts w w.heap.size v es) :
    Calls Try.prog 54 #[v, .int .i64 q] w (RetQ (.string (findA es q)) w) := by
  obtain ⟨A, c, rfl, hc, hm, hel⟩ := h
  unfold maxLen at hm
  have hlm : es.length ≤ 9223372036854775807 := by omega
  have HEL := Lib.hid hel
  clear hel
  go_enter Try.func54, Try.ntmps54
  go_wp2
  go_loop [5] (fun i => ∃ k : Nat, k ≤ es.length ∧ i = .int .i64 (k : Int) ∧ findA es q = findA (es.drop k) q) (fun i => es.length - (RowKit.intOf i).toNat)
  case atStart => exact ⟨0, Nat.zero_le _, rfl, rfl⟩
  case round =>
    obtain ⟨k, hk, rfl, hf⟩ := hrel
    have HF := Lib.hid hf
    clear hf
    by_cases hlt : k < es.length
    · obtain ⟨b, off, rfl, hblt, hcell⟩ := HEL.out (by omega)
      have hget : es[k]? = some es[k] := List.getElem?_eq_getElem hlt
      obtain ⟨x0, x1⟩ := arts_at hcell hget
      have HG := Lib.hid hget
      clear hget hcell
      generalize es[k] = e at *
      by_cases hq : e.id = q
      · have HR := Lib.hid (findA_hit HG.out hq HF.out)
        have hb : (e.id == q) = true := by simp [hq]
        clear hq
        go_wp2
        go_ret
        exact ⟨by rw [HR.out]; rfl, 0, rfl⟩
      · have HR := Lib.hid (findA_drop HG.out hq HF.out)
        have hb : (e.id == q) = false := by simp [hq]
        clear hq
        go_wp2
        go_round
        case rel => exact ⟨k + 1, by omega, by go_num, HR.out⟩
        case measure => simp [RowKit.intOf]; omega
    · have HR := Lib.hid (findA_end (by omega : es.length ≤ k) HF.out)
      have hge : ¬ (k : Int) < (es.length : Int) := by omega
      go_wp2
      go_ret
      exact ⟨by rw [HR.out]; rfl, 0, rfl⟩
end Go.Proofs.Ytmgdodgofpapgaa

namespace Go.Proofs.Ytmgdodgofpapgaa
open Go.RowKit Go.Lib

theorem edit_eta (e : Edit) : Value.agg #[.int .i64 e.kind, .int .i64 e.id, .string e.old, .string e.new] = editV e := rfl

set_option maxHeartbeats 2000000 in
theorem editOf1_any (es : List Edit) (q : Int) (w : World) (v : Value) (h : Edits w w.heap.size v es) :
    Calls Try.prog 28 #[v, .int .i64 q] w (RetB (editV (editOf es q)) w) := by
  obtain ⟨A, c, rfl, hc, hm, hel⟩ := h
  unfold maxLen at hm
  have hlm : es.length ≤ 9223372036854775807 := by omega
  have HEL := Lib.hid hel
  have HB : Hid (Below w.heap.size w (w.alloc (.cells #[.int .i64 0, .int .i64 0, .string ⟨#[]⟩, .string ⟨#[]⟩] 59))) := Lib.hid ((Below.refl w.heap.size w).alloc (Nat.le_refl _) _)
  clear hel
  go_enter Try.func28, Try.ntmps28
  go_wp2
  go_loop [5] (fun i => ∃ k : Nat, k ≤ es.length ∧ i = .int .i64 (k : Int) ∧ editOf es q = editOf (es.drop k) q) (fun i => es.length - (RowKit.intOf i).toNat)
  case atStart => exact ⟨0, Nat.zero_le _, rfl, rfl⟩
  case round =>
    obtain ⟨k, hk, rfl, hf⟩ := hrel
    have HF := Lib.hid hf
    clear hf
    by_cases hlt : k < es.length
    · obtain ⟨b, off, rfl, hblt, hcell⟩ := HEL.out (by omega)
      have hget : es[k]? = some es[k] := List.getElem?_eq_getElem hlt
      obtain ⟨c0, c1, c2, c3⟩ := edits_at hcell hget
      have x0 := (HB.out.cell (p := ⟨b, off + k * 4, none⟩) hblt).trans c0
      have x1 := (HB.out.cell (p := ⟨b, off + k * 4 + 1, none⟩) hblt).trans c1
      have x2 := (HB.out.cell (p := ⟨b, off + k * 4 + 2, none⟩) hblt).trans c2
      have x3 := (HB.out.cell (p := ⟨b, off + k * 4 + 3, none⟩) hblt).trans c3
      have HG := Lib.hid hget
      clear hget hcell c0 c1 c2 c3
      generalize es[k] = e at *
      by_cases hq : e.id = q
      · have HR := Lib.hid (editOf_hit HG.out hq HF.out)
        have hb : (e.id == q) = true := by simp [hq]
        clear hq
        go_wp2
        refine bodyPost_ret (v := .agg #[.int .i64 e.kind, .int .i64 e.id, .string e.old, .string e.new]) (by simp [results, Try.results28, go_sem]) rfl ⟨by rw [HR.out]; rfl, ?_⟩
        exact (Below.refl _ _).alloc (Nat.le_refl _) _
      · have HR := Lib.hid (editOf_drop HG.out hq HF.out)
        have hb : (e.id == q) = false := by simp [hq]
        clear hq
        go_wp2
        go_round
        case rel => exact ⟨k + 1, by omega, by go_num, HR.out⟩
        case measure => simp [RowKit.intOf]; omega
    · have HR := Lib.hid (editOf_end (by omega : es.length ≤ k) HF.out)
      have hge : ¬ (k : Int) < (es.length : Int) := by omega
      go_wp2
      refine bodyPost_ret (v := .agg #[.int .i64 0, .int .i64 0, .string ⟨#[]⟩, .string ⟨#[]⟩]) (by simp [results, Try.results28, go_sem]) rfl ⟨by rw [HR.out]; rfl, ?_⟩
      exact (Below.refl _ _).alloc (Nat.le_refl _) _

theorem stepE_1 {i : Int} {o n : ByteArray} (h : o.toList = n.toList) : stepE i o n = noEdit := if_pos h
theorem stepE_2 {i : Int} {o n : ByteArray} (h : o.toList ≠ n.toList) (h2 : o.toList = []) : stepE i o n = ⟨1, i, o, n⟩ := by unfold stepE; rw [if_neg h, if_pos h2]
theorem stepE_3 {i : Int} {o n : ByteArray} (h : o.toList ≠ n.toList) (h2 : o.toList ≠ []) (h3 : n.toList = []) : stepE i o n = ⟨2, i, o, n⟩ := by unfold stepE; rw [if_neg h, if_neg h2, if_pos h3]
theorem stepE_4 {i : Int} {o n : ByteArray} (h : o.toList ≠ n.toList) (h2 : o.toList ≠ []) (h3 : n.toList ≠ []) : stepE i o n = ⟨3, i, o, n⟩ := by unfold stepE; rw [if_neg h, if_neg h2, if_neg h3]

set_option maxHeartbeats 2000000 in
theorem step1_any (i : Int) (o n : ByteArray) (w : World) :
    Calls Try.prog 55 #[.int .i64 i, .string o, .string n] w (RetB (editV (stepE i o n)) w) := by
  by_cases h1 : o.toList = n.toList
  · have e1 : (o.toList == n.toList) = true := by simp [h1]
    have HR := Lib.hid (stepE_1 (i := i) h1)
    clear h1
    go_enter Try.func55, Try.ntmps55
    go_wp2
    refine bodyPost_ret (v := .agg #[.int .i64 0, .int .i64 0, .string ⟨#[]⟩, .string ⟨#[]⟩]) (by simp [results, Try.results55, go_sem]) rfl ⟨by rw [HR.out]; rfl, ?_⟩
    exact ((Below.refl _ _).alloc (Nat.le_refl _) _).alloc (by simp) _
  · have e1 : (o.toList == n.toList) = false := by simp [h1]
    by_cases h2 : o.toList = []
    · have e2 : (o.toList == []) = true := by simp [h2]
      have HR := Lib.hid (stepE_2 (i := i) h1 h2)
      clear h1 h2
      go_enter Try.func55, Try.ntmps55
      go_wp2
      refine bodyPost_ret (v := .agg #[.int .i64 1, .int .i64 i, .string o, .string n]) (by simp [results, Try.results55, go_sem]) rfl ⟨by rw [HR.out]; rfl, ?_⟩
      exact ((Below.refl _ _).alloc (Nat.le_refl _) _).alloc (by simp) _
    · have e2 : (o.toList == []) = false := by simp [h2]
      by_cases h3 : n.toList = []
      · have e3 : (n.toList == []) = true := by simp [h3]
        have HR := Lib.hid (stepE_3 (i := i) h1 h2 h3)
        clear h1 h2 h3
        go_enter Try.func55, Try.ntmps55
        go_wp2
        refine bodyPost_ret (v := .agg #[.int .i64 2, .int .i64 i, .string o, .string n]) (by simp [results, Try.results55, go_sem]) rfl ⟨by rw [HR.out]; rfl, ?_⟩
        exact ((Below.refl _ _).alloc (Nat.le_refl _) _).alloc (by simp) _
      · have e3 : (n.toList == []) = false := by simp [h3]
        have HR := Lib.hid (stepE_4 (i := i) h1 h2 h3)
        clear h1 h2 h3
        go_enter Try.func55, Try.ntmps55
        go_wp2
        refine bodyPost_ret (v := .agg #[.int .i64 3, .int .i64 i, .string o, .string n]) (by simp [results, Try.results55, go_sem]) rfl ⟨by rw [HR.out]; rfl, ?_⟩
        exact ((Below.refl _ _).alloc (Nat.le_refl _) _).alloc (by simp) _
end Go.Proofs.Ytmgdodgofpapgaa

namespace Go.Proofs.Ytmgdodgofpapgaa
open Go.RowKit Go.Lib

def StatDraw (B : Nat) (w : World) (b k : Nat) (e : Ending) (w' : World) : Prop :=
  ∃ v L, e = .returned v ∧ OwnL artCells L w.heap.size w' v ∧ okStat L = true ∧ Src B w' b k ∧ Only b w w'

/-- A statute that is being drawn. -/
structure Drawn (L : List Art) (d : Int) : Prop where
  rise : RiseA L
  all : ∀ a ∈ L, 1 ≤ a.id ∧ a.id ≤ d ∧ okSent a.text.toList = true
  d0 : 0 ≤ d
  d1 : d ≤ 2 * L.length
theorem Drawn.nil : Drawn [] 0 := ⟨List.Pairwise.nil, fun a h => (by cases h), by omega, by simp⟩
theorem Drawn.snoc {L : List Art} {d x : Int} {l : List UInt8} (h : Drawn L d) (hx : 0 ≤ x) (hx1 : x < 2) (hl : okSent l = true) : Drawn (L ++ [⟨d + (1 + x), ⟨l.toArray⟩⟩]) (d + (1 + x)) where
  rise := by
    have hr := h.rise
    unfold RiseA at *
    rw [List.pairwise_append]
    refine ⟨hr, by simp, fun a ha c hc => ?_⟩
    rw [List.mem_singleton] at hc
    subst hc
    have := h.all a ha
    show a.id < d + (1 + x)
    omega
  all := fun a ha => by
    have := h.d0
    rcases List.mem_append.1 ha with ha | ha
    · have h3 := h.all a ha
      exact ⟨h3.1, by omega, h3.2.2⟩
    · rw [List.mem_singleton] at ha
      subst ha
      refine ⟨by show 1 ≤ d + (1 + x); omega, Int.le_refl _, ?_⟩
      show okSent (⟨l.toArray⟩ : ByteArray).toList = true
      rw [ByteArray.toList_eq]
      exact hl
  d0 := by have := h.d0; omega
  d1 := by have := h.d1; rw [List.length_append]; simp; omega
theorem Drawn.ok {L : List Art} {d : Int} (h : Drawn L d) (h8 : L.length ≤ 8) : okStat L = true := by
  rw [okStat_iff]
  refine ⟨fun a ha => ?_, h.rise, h8⟩
  obtain ⟨h1, h2, h3⟩ := h.all a ha
  have := h.d1
  unfold okArt
  rw [inB_true h1 (by omega), h3]
  rfl
theorem Drawn.last {L : List Art} {a : Art} {d : Int} (h : Drawn (L ++ [a]) d) (h8 : (L ++ [a]).length ≤ 8) : okStat (L ++ [⟨99, a.text⟩]) = true := by
  rw [okStat_iff]
  have hr := h.rise
  have hd := h.d1
  unfold RiseA at hr
  rw [List.pairwise_append] at hr
  refine ⟨fun x hx => ?_, ?_, by simpa using h8⟩
  · rcases List.mem_append.1 hx with hx | hx
    · obtain ⟨h1, h2, h3⟩ := h.all x (List.mem_append_left _ hx)
      unfold okArt
      rw [inB_true h1 (by omega), h3]
      rfl
    · rw [List.mem_singleton] at hx
      subst hx
      obtain ⟨_, _, h3⟩ := h.all a (by simp)
      unfold okArt
      rw [h3]
      rfl
  · unfold RiseA
    rw [List.pairwise_append]
    refine ⟨hr.1, by simp, fun x hx y hy => ?_⟩
    rw [List.mem_singleton] at hy
    subst hy
    obtain ⟨h1, h2, h3⟩ := h.all x (List.mem_append_left _ hx)
    show x.id < 99
    omega
theorem art_set (L : List Art) (a : Art) (n : Int) : ((L ++ [a]).flatMap artCells).set (L.length * 2) (.int .i64 n) = (L ++ [(⟨n, a.text⟩ : Art)]).flatMap artCells := by
  have hl : (L.flatMap artCells).length = L.length * 2 := by
    induction L with
    | nil => rfl
    | cons x r ih => rw [List.flatMap_cons, List.length_append, ih]; simp [artCells]; omega
  rw [flat_snoc, flat_snoc, List.set_append, if_neg (by omega), hl, Nat.sub_self]
  rfl
theorem art_cell (L : List Art) (a : Art) : ((L ++ [a]).flatMap artCells)[L.length * 2]? = some (.int .i64 a.id) := by
  have hl : (L.flatMap artCells).length = L.length * 2 := by
    induction L with
    | nil => rfl
    | cons x r ih => rw [List.flatMap_cons, List.length_append, ih]; simp [artCells]; omega
  rw [flat_snoc, List.getElem?_append_right (by omega), hl, Nat.sub_self]
  rfl

set_option maxRecDepth 100000 in
set_option maxHeartbeats 4000000 in
theorem drawOk_any (B b k : Nat) (w : World) (h : Src B w b k) (hk : k ≤ 50000) :
    Calls Try.prog 24 #[.pointer (some ⟨b, 0, none⟩)] w (StatDraw B w b (k + 60)) := by
  have H := Lib.hid h
  have HB := Lib.hid h.lt.1
  clear h
  obtain ⟨i0, hi, hz0, hz1, hz2⟩ := info_parts Try.infoA
  go_enter Try.func24, Try.ntmps24
  go_wp2_with (fail)
  refine (pick_pos B b k 6 _ (H.out.alloc _) (by omega) (by omega) (by omega)).mono ?_
  rintro e w1 ⟨n1, hn1, rfl, hs1, ho1⟩
  have hown1 : w1.ownsRow w.heap.size 70 2 (.slice (some ⟨w.heap.size, 0, none⟩) 0 0) 0 [] := own_only (by simpa using World.ownsRow_made w #[] 0 (Nat.le_refl _) (Nat.zero_le _) rfl) HB.out ho1
  have HO1 : Hid (Only b w w1) := Lib.hid (only_trans (only_of_below ((Below.refl w.heap.size w).alloc (Nat.le_refl _) _)) ho1)
  have HS1 := Lib.hid hs1
  have HOWN1 := Lib.hid hown1
  clear hs1 ho1 hown1
  go_wp2_with (fail)
  refine (one_any B b _ 10 w1 HS1.out (by omega) (by omega) (by omega)).mono ?_
  rintro e w2 ⟨x, rfl, hs2, ho2⟩
  have HOWN2 := Lib.hid (own_only HOWN1.out HB.out ho2)
  have HO2 := Lib.hid (only_trans HO1.out ho2)
  have Hs2 := Lib.hid hs2
  clear hs2 ho2
  cases x with
  | false =>
    go_wp2
    go_loopw [3, 4, 5] (fun o i n wr => ∃ (L : List Art) (m : Nat) (d : Int), wr.ownsRow w.heap.size 70 2 o L.length (L.flatMap artCells) ∧ i = .int .i64 d ∧ n = .int .i64 (m : Int) ∧ L.length + m ≤ 8 ∧ Drawn L d ∧ o ≠ .slice none 0 0 ∧ Src B wr b (k + 4 + 4 * L.length) ∧ Only b w wr) (fun _ _ n _ => (RowKit.intOf n).toNat)
    case atStart => exact ⟨[], n1, 0, HOWN2.out, rfl, rfl, (by simp <;> omega), Drawn.nil, by simp, Hs2.out.more (by simp), HO2.out⟩
    case round =>
      obtain ⟨L, m, d, hown, rfl, rfl, hlm, hD, hnn, hs, ho⟩ := hrel
      obtain ⟨g, cap, rfl, hdc, hcm⟩ := own_some hown hnn
      unfold maxLen at hcm
      have HOWN := Lib.hid hown
      have HD := Lib.hid hD
      have HS := Lib.hid hs
      have HO := Lib.hid ho
      have hd0 := hD.d0
      have hd1 := hD.d1
      clear hown hD hs ho hnn
      by_cases hm : 0 < m
      · have hm' : (0 : Int) < (m : Int) := by omega
        go_wp2_with (fail)
        refine (pick_pos B b _ 2 wr HS.out (by omega) (by omega) (by omega)).mono ?_
        rintro e w3 ⟨x, hx, rfl, hs3, ho3⟩
        have HS3 := Lib.hid hs3
        have HO3 := Lib.hid ho3
        clear hs3 ho3
        go_wp2_with (fail)
        refine (drawSent_any B b _ w3 HS3.out (by omega)).mono ?_
        rintro e w4 ⟨l, hl, rfl, hs4, ho4⟩
        have hown := own_only (own_only HOWN.out HB.out HO3.out) HB.out ho4
        have HO4 : Hid (Only b w w4) := Lib.hid (only_trans (only_trans HO.out HO3.out) ho4)
        have HS4 := Lib.hid hs4
        have HL := Lib.hid hl
        have hsz4 := HO4.out.size
        clear hs4 ho4 hl
        go_wp2_with (at_builtin; refine wpList_append_own _ rfl _ _ 24 rfl w.heap.size 70 i0 (.agg #[.int .i64 0, .string ⟨#[]⟩]) 2 24 Try.underlying24 hi hz0 hz1 hz2 rfl (by decide) _ _ _ rfl (hown.alloc _) ⟨w4.heap.size, 0, none⟩ 1 1 (artCells ⟨d + (1 + (x : Int)), ⟨l.toArray⟩⟩) rfl rfl (fun j u hj => new_at hj) (fun u hu => art_one hu) ?c3 ?c4 (base_le hsz4) ?_)
        case c3 => unfold maxLen; omega
        case c4 => omega
        · intro v' w5 hown' hgrow hiff
          have hnn' : v' ≠ .slice none 0 0 := by simpa using hiff
          have hr : ∀ j, (Value.slice (some ⟨g, 0, none⟩) L.length cap).ownBlock = some j → w.heap.size ≤ j := fun j hj => (hown.lt j hj).1
          have HO5 := Lib.hid (only_grown (only_alloc HO4.out _) hgrow hr)
          have HS5 := Lib.hid ((HS4.out.alloc _).grown hgrow (fun j hj => Nat.lt_of_lt_of_le HB.out (hr j hj)))
          clear hown hgrow hiff hr
          go_wp2
          go_roundw
          case rel => exact ⟨L ++ [⟨d + (1 + (x : Int)), ⟨l.toArray⟩⟩], m - 1, d + (1 + (x : Int)), by rw [flat_snoc, List.length_append]; exact hown', rfl, by go_num, by rw [List.length_append]; simp; omega, HD.out.snoc (by omega) (by omega) HL.out, hnn', HS5.out.more (by rw [List.length_append]; simp; omega), HO5.out⟩
          case measure => simp [RowKit.intOf]; omega
      · have hm0 : m = 0 := by omega
        subst hm0
        have hL8 : L.length ≤ 8 := by omega
        by_cases hL : L = []
        · subst hL
          have HOL : Hid (OwnL artCells [] w.heap.size wr (.slice (some ⟨g, 0, none⟩) 0 cap)) := Lib.hid (OwnL.of_own artCells (size := 2) (fun _ => rfl) HOWN.out)
          go_wp2
          go_ret
          exact ⟨_, [], rfl, HOL.out, HD.out.ok (by simp), HS.out.more (by simp), HO.out⟩
        · obtain ⟨L', a, rfl⟩ : ∃ L' a, L = L' ++ [a] := ⟨L.dropLast, L.getLast hL, (List.dropLast_concat_getLast hL).symm⟩
          have hll : (L' ++ [a]).length = L'.length + 1 := by simp
          rw [hll] at hL8 hlm hdc hd1 HOWN HS
          have hpos : (0 : Int) < ((L'.length + 1 : Nat) : Int) := by omega
          have HOL : Hid (OwnL artCells (L' ++ [a]) w.heap.size wr (.slice (some ⟨g, 0, none⟩) (L'.length + 1) cap)) := Lib.hid (OwnL.of_own artCells (size := 2) (fun _ => rfl) (by rw [hll]; exact HOWN.out))
          go_wp2_with (fail)
          refine (one_any B b _ 10 wr HS.out (by omega) (by omega) (by omega)).mono ?_
          rintro e w3 ⟨x, rfl, hs3, ho3⟩
          have HO3 := Lib.hid (only_trans HO.out ho3)
          have HS3 := Lib.hid hs3
          have HOL3 := Lib.hid (HOL.out.only HB.out ho3)
          clear hs3 ho3
          cases x with
          | false =>
            go_wp2
            go_ret
            exact ⟨_, _, rfl, HOL3.out, HD.out.ok (by rw [hll]; omega), HS3.out.more (by omega), HO3.out⟩
          | true =>
            obtain ⟨A', c', hv, hc1, hc2, hc3⟩ := HOL3.out
            obtain ⟨g', hA', hg', hgl, hrow⟩ := hc3 (by simp)
            injection hv with hv1 hv2 hv3
            rw [hA'] at hv1
            injection hv1 with hv1
            injection hv1 with hv1
            subst hv1
            subst hv3
            have x0 := hrow.cell (L'.length * 2) _ (art_cell L' a)
            have f0 := hrow.free (L'.length * 2) (by have := (List.getElem?_eq_some_iff.1 (art_cell L' a)).1; exact this)
            have hr2 := hrow.set (L'.length * 2) (.int .i64 99) (by have := (List.getElem?_eq_some_iff.1 (art_cell L' a)).1; exact this)
            rw [art_set] at hr2
            have HR2 := Lib.hid hr2
            have HGL := Lib.hid hgl
            clear hr2 hrow hc3 hA' hv2 hgl
            go_wp2
            go_ret
            refine ⟨_, L' ++ [⟨99, a.text⟩], rfl, ⟨_, cap, by rw [show (L' ++ [(⟨99, a.text⟩ : Art)]).length = L'.length + 1 by simp]; rfl, by simpa using hc1, hc2, fun _ => ⟨g, rfl, hg', by simpa [World.setCell] using HGL.out, HR2.out⟩⟩, HD.out.last (by rw [hll]; omega), (HS3.out.more (by omega)).below (D := w.heap.size) ((Below.refl _ _).setCell (by simpa using hg') _) HB.out, only_setCell HO3.out (.inr (by simpa using hg')) _⟩
  | true =>
    go_wp2
    go_loopw [3, 4, 5] (fun o i n wr => ∃ (L : List Art) (m : Nat) (d : Int), wr.ownsRow w.heap.size 70 2 o L.length (L.flatMap artCells) ∧ i = .int .i64 d ∧ n = .int .i64 (m : Int) ∧ L.length + m ≤ 8 ∧ Drawn L d ∧ o ≠ .slice none 0 0 ∧ Src B wr b (k + 4 + 4 * L.length) ∧ Only b w wr) (fun _ _ n _ => (RowKit.intOf n).toNat)
    case atStart => exact ⟨[], 8, 0, HOWN2.out, rfl, rfl, (by simp <;> omega), Drawn.nil, by simp, Hs2.out.more (by simp), HO2.out⟩
    case round =>
      obtain ⟨L, m, d, hown, rfl, rfl, hlm, hD, hnn, hs, ho⟩ := hrel
      obtain ⟨g, cap, rfl, hdc, hcm⟩ := own_some hown hnn
      unfold maxLen at hcm
      have HOWN := Lib.hid hown
      have HD := Lib.hid hD
      have HS := Lib.hid hs
      have HO := Lib.hid ho
      have hd0 := hD.d0
      have hd1 := hD.d1
      clear hown hD hs ho hnn
      by_cases hm : 0 < m
      · have hm' : (0 : Int) < (m : Int) := by omega
        go_wp2_with (fail)
        refine (pick_pos B b _ 2 wr HS.out (by omega) (by omega) (by omega)).mono ?_
        rintro e w3 ⟨x, hx, rfl, hs3, ho3⟩
        have HS3 := Lib.hid hs3
        have HO3 := Lib.hid ho3
        clear hs3 ho3
        go_wp2_with (fail)
        refine (drawSent_any B b _ w3 HS3.out (by omega)).mono ?_
        rintro e w4 ⟨l, hl, rfl, hs4, ho4⟩
        have hown := own_only (own_only HOWN.out HB.out HO3.out) HB.out ho4
        have HO4 : Hid (Only b w w4) := Lib.hid (only_trans (only_trans HO.out HO3.out) ho4)
        have HS4 := Lib.hid hs4
        have HL := Lib.hid hl
        have hsz4 := HO4.out.size
        clear hs4 ho4 hl
        go_wp2_with (at_builtin; refine wpList_append_own _ rfl _ _ 24 rfl w.heap.size 70 i0 (.agg #[.int .i64 0, .string ⟨#[]⟩]) 2 24 Try.underlying24 hi hz0 hz1 hz2 rfl (by decide) _ _ _ rfl (hown.alloc _) ⟨w4.heap.size, 0, none⟩ 1 1 (artCells ⟨d + (1 + (x : Int)), ⟨l.toArray⟩⟩) rfl rfl (fun j u hj => new_at hj) (fun u hu => art_one hu) ?c3 ?c4 (base_le hsz4) ?_)
        case c3 => unfold maxLen; omega
        case c4 => omega
        · intro v' w5 hown' hgrow hiff
          have hnn' : v' ≠ .slice none 0 0 := by simpa using hiff
          have hr : ∀ j, (Value.slice (some ⟨g, 0, none⟩) L.length cap).ownBlock = some j → w.heap.size ≤ j := fun j hj => (hown.lt j hj).1
          have HO5 := Lib.hid (only_grown (only_alloc HO4.out _) hgrow hr)
          have HS5 := Lib.hid ((HS4.out.alloc _).grown hgrow (fun j hj => Nat.lt_of_lt_of_le HB.out (hr j hj)))
          clear hown hgrow hiff hr
          go_wp2
          go_roundw
          case rel => exact ⟨L ++ [⟨d + (1 + (x : Int)), ⟨l.toArray⟩⟩], m - 1, d + (1 + (x : Int)), by rw [flat_snoc, List.length_append]; exact hown', rfl, by go_num, by rw [List.length_append]; simp; omega, HD.out.snoc (by omega) (by omega) HL.out, hnn', HS5.out.more (by rw [List.length_append]; simp; omega), HO5.out⟩
          case measure => simp [RowKit.intOf]; omega
      · have hm0 : m = 0 := by omega
        subst hm0
        have hL8 : L.length ≤ 8 := by omega
        by_cases hL : L = []
        · subst hL
          have HOL : Hid (OwnL artCells [] w.heap.size wr (.slice (some ⟨g, 0, none⟩) 0 cap)) := Lib.hid (OwnL.of_own artCells (size := 2) (fun _ => rfl) HOWN.out)
          go_wp2
          go_ret
          exact ⟨_, [], rfl, HOL.out, HD.out.ok (by simp), HS.out.more (by simp), HO.out⟩
        · obtain ⟨L', a, rfl⟩ : ∃ L' a, L = L' ++ [a] := ⟨L.dropLast, L.getLast hL, (List.dropLast_concat_getLast hL).symm⟩
          have hll : (L' ++ [a]).length = L'.length + 1 := by simp
          rw [hll] at hL8 hlm hdc hd1 HOWN HS
          have hpos : (0 : Int) < ((L'.length + 1 : Nat) : Int) := by omega
          have HOL : Hid (OwnL artCells (L' ++ [a]) w.heap.size wr (.slice (some ⟨g, 0, none⟩) (L'.length + 1) cap)) := Lib.hid (OwnL.of_own artCells (size := 2) (fun _ => rfl) (by rw [hll]; exact HOWN.out))
          go_wp2_with (fail)
          refine (one_any B b _ 10 wr HS.out (by omega) (by omega) (by omega)).mono ?_
          rintro e w3 ⟨x, rfl, hs3, ho3⟩
          have HO3 := Lib.hid (only_trans HO.out ho3)
          have HS3 := Lib.hid hs3
          have HOL3 := Lib.hid (HOL.out.only HB.out ho3)
          clear hs3 ho3
          cases x with
          | false =>
            go_wp2
            go_ret
            exact ⟨_, _, rfl, HOL3.out, HD.out.ok (by rw [hll]; omega), HS3.out.more (by omega), HO3.out⟩
          | true =>
            obtain ⟨A', c', hv, hc1, hc2, hc3⟩ := HOL3.out
            obtain ⟨g', hA', hg', hgl, hrow⟩ := hc3 (by simp)
            injection hv with hv1 hv2 hv3
            rw [hA'] at hv1
            injection hv1 with hv1
            injection hv1 with hv1
            subst hv1
            subst hv3
            have x0 := hrow.cell (L'.length * 2) _ (art_cell L' a)
            have f0 := hrow.free (L'.length * 2) (by have := (List.getElem?_eq_some_iff.1 (art_cell L' a)).1; exact this)
            have hr2 := hrow.set (L'.length * 2) (.int .i64 99) (by have := (List.getElem?_eq_some_iff.1 (art_cell L' a)).1; exact this)
            rw [art_set] at hr2
            have HR2 := Lib.hid hr2
            have HGL := Lib.hid hgl
            clear hr2 hrow hc3 hA' hv2 hgl
            go_wp2
            go_ret
            refine ⟨_, L' ++ [⟨99, a.text⟩], rfl, ⟨_, cap, by rw [show (L' ++ [(⟨99, a.text⟩ : Art)]).length = L'.length + 1 by simp]; rfl, by simpa using hc1, hc2, fun _ => ⟨g, rfl, hg', by simpa [World.setCell] using HGL.out, HR2.out⟩⟩, HD.out.last (by rw [hll]; omega), (HS3.out.more (by omega)).below (D := w.heap.size) ((Below.refl _ _).setCell (by simpa using hg') _) HB.out, only_setCell HO3.out (.inr (by simpa using hg')) _⟩
end Go.Proofs.Ytmgdodgofpapgaa

namespace Go.Proofs.Ytmgdodgofpapgaa
open Go.RowKit Go.Lib

def PatchDraw (B : Nat) (w : World) (b k : Nat) (e : Ending) (w' : World) : Prop :=
  ∃ v P, e = .returned v ∧ OwnL editCells P w.heap.size w' v ∧ okPatch P = true ∧ Src B w' b k ∧ Only b w w'

/-- A patch that is being drawn: what is below q. -/
structure DrawnE (P : List Edit) (q : Nat) : Prop where
  rise : RiseE P
  all : ∀ a ∈ P, okEdit a = true ∧ a.id < q
  len : P.length + 1 ≤ q
theorem DrawnE.nil : DrawnE [] 1 := ⟨List.Pairwise.nil, fun a h => (by cases h), by simp⟩
theorem DrawnE.skip {P : List Edit} {q : Nat} (h : DrawnE P q) : DrawnE P (q + 1) := ⟨h.rise, fun a ha => ⟨(h.all a ha).1, by have := (h.all a ha).2; omega⟩, by have := h.len; omega⟩
theorem DrawnE.snoc {P : List Edit} {q : Nat} {E : Edit} (h : DrawnE P q) (hE : okEdit E = true) (hi : E.id = q) : DrawnE (P ++ [E]) (q + 1) where
  rise := by
    have hr := h.rise
    unfold RiseE at *
    rw [List.pairwise_append]
    refine ⟨hr, by simp, fun a ha c hc => ?_⟩
    rw [List.mem_singleton] at hc
    subst hc
    have := (h.all a ha).2
    omega
  all := fun a ha => by
    rcases List.mem_append.1 ha with ha | ha
    · have := h.all a ha
      exact ⟨this.1, by have := this.2; omega⟩
    · rw [List.mem_singleton] at ha
      subst ha
      exact ⟨hE, by omega⟩
  len := by have := h.len; simp; omega
theorem DrawnE.ok {P : List Edit} (h : DrawnE P 17) : okPatch P = true := by
  rw [okPatch_iff]
  exact ⟨fun a ha => (h.all a ha).1, h.rise, by have := h.len; omega⟩
theorem find_ok {es : List Art} (h : okStat es = true) (q : Int) : (findA es q).toList = [] ∨ okSent (findA es q).toList = true := by
  rcases findA_cases es q with ⟨a, ha, _, he⟩ | ⟨he, _⟩
  · rw [he]
    exact .inr (okArt_facts (okStat_mem h ha)).2.2.1
  · rw [he]
    exact .inl (by rw [ByteArray.toList_eq])
theorem sent_txt {l : List UInt8} (h : okSent l = true) : (⟨l.toArray⟩ : ByteArray).toList = [] ∨ okSent (⟨l.toArray⟩ : ByteArray).toList = true := by
  right
  rw [ByteArray.toList_eq]
  exact h
theorem emp_txt : (⟨#[]⟩ : ByteArray).toList = [] ∨ okSent (⟨#[]⟩ : ByteArray).toList = true := by
  left
  rw [ByteArray.toList_eq]

theorem new_at2 {w : World} {o : Obj} {cs : List Value} {T : TypeId} {j : Nat} {u : Value} (h : cs[j]? = some u) : ((w.alloc o).alloc (.cells cs.toArray T)).cell? ((⟨w.heap.size + 1, 0, none⟩ : Addr).add j) = some u := by
  have h := new_at (w := w.alloc o) (T := T) h
  rwa [show (w.alloc o).heap.size = w.heap.size + 1 by simp] at h

set_option maxRecDepth 100000 in
set_option maxHeartbeats 8000000 in
theorem drawFor_any (B b k base : Nat) (es : List Art) (v : Value) (w : World) (h : Src B w b k) (hk : k ≤ 50000) (hT : OwnL artCells es base w v) (hbb : b < base) (hok : okStat es = true) :
    Calls Try.prog 26 #[.pointer (some ⟨b, 0, none⟩), v] w (PatchDraw B w b (k + 220)) := by
  have H := Lib.hid h
  have HB := Lib.hid h.lt.1
  have HT := Lib.hid hT
  have HBB := Lib.hid hbb
  have HOK := Lib.hid hok
  obtain ⟨T, tc, rfl, _⟩ := hT
  clear h hbb hok
  obtain ⟨i0, hi, hz0, hz1, hz2⟩ := info_parts Try.infoE
  go_enter Try.func26, Try.ntmps26
  go_wp2_with (fail)
  refine (pick_pos B b k 3 _ (H.out.alloc _) (by omega) (by omega) (by omega)).mono ?_
  rintro e w1 ⟨n1, hn1, rfl, hs1, ho1⟩
  have hown1 : w1.ownsRow w.heap.size 59 4 (.slice (some ⟨w.heap.size, 0, none⟩) 0 0) 0 [] := own_only (by simpa using World.ownsRow_made w #[] 0 (Nat.le_refl _) (Nat.zero_le _) rfl) HB.out ho1
  have HO1 : Hid (Only b w w1) := Lib.hid (only_trans (only_of_below ((Below.refl w.heap.size w).alloc (Nat.le_refl _) _)) ho1)
  have HS1 := Lib.hid hs1
  have HOWN1 := Lib.hid hown1
  clear hs1 ho1 hown1
  go_wp2
  go_loopw [5, 7] (fun o i wr => ∃ (P : List Edit) (q : Nat), wr.ownsRow w.heap.size 59 4 o P.length (P.flatMap editCells) ∧ i = .int .i64 (q : Int) ∧ 1 ≤ q ∧ q ≤ 17 ∧ DrawnE P q ∧ o ≠ .slice none 0 0 ∧ Src B wr b (k + 2 + 12 * (q - 1)) ∧ Only b w wr) (fun _ i _ => 17 - (RowKit.intOf i).toNat)
  case atStart => exact ⟨[], 1, HOWN1.out, rfl, by omega, by omega, DrawnE.nil, by simp, HS1.out.more (by omega), HO1.out⟩
  case round =>
    obtain ⟨P, q, hown, rfl, hq1, hq17, hD, hnn, hs, ho⟩ := hrel
    obtain ⟨g, cap, rfl, hdc, hcm⟩ := own_some hown hnn
    unfold maxLen at hcm
    have HOWN := Lib.hid hown
    have HD := Lib.hid hD
    have HS := Lib.hid hs
    have HO := Lib.hid ho
    have hlen := hD.len
    clear hown hD hs ho hnn
    by_cases hq : q ≤ 16
    · have hq' : (q : Int) ≤ 16 := by omega
      go_wp2_with (fail)
      refine (one_any B b _ (2 + (n1 : Int)) wr HS.out (by omega) (by omega) (by omega)).mono ?_
      rintro e w2 ⟨x2, rfl, hs2, ho2⟩
      have HOWN2 := Lib.hid (own_only HOWN.out HB.out ho2)
      have HO2 := Lib.hid (only_trans HO.out ho2)
      have HS2 := Lib.hid hs2
      clear hs2 ho2
      cases x2 with
      | false =>
        go_wp2
        go_roundw
        case rel => exact ⟨P, q + 1, HOWN2.out, by go_num, by omega, by omega, HD.out.skip, by simp, HS2.out.more (by omega), HO2.out⟩
        case measure => simp [RowKit.intOf]; omega
      | true =>
        have HF := Lib.hid (find1_any es q w2 _ ((HT.out.only HBB.out HO2.out).slR (size := 2) (fun _ => rfl)))
        have HFO := Lib.hid (find_ok HOK.out q)
        generalize findA es q = old at HF HFO
        go_wp2_with (fail)
        refine (HF.out).mono ?_
        rintro e w3 ⟨rfl, m3, rfl⟩
        have HOWN3 := Lib.hid (own_below HOWN2.out (below_drewN (Below.refl w2.heap.size w2) m3))
        have HO3 := Lib.hid (only_drewN HO2.out m3)
        have HS3 := Lib.hid (HS2.out.drewN m3)
        clear HF
        go_wp2_with (fail)
        refine (drawSent_any B b _ _ HS3.out (by omega)).mono ?_
        rintro e w4 ⟨l4, hl4, rfl, hs4, ho4⟩
        have HOWN4 := Lib.hid (own_only HOWN3.out HB.out ho4)
        have HO4 := Lib.hid (only_trans HO3.out ho4)
        have HS4 := Lib.hid hs4
        have HL4 := Lib.hid hl4
        clear hs4 ho4 hl4
        by_cases h0 : old.toList = []
        · have e0 : (old.toList == []) = true := by simp [h0]
          have e0' : (old.toList != []) = false := by simp [h0]
          clear h0
          go_wp2_with (fail)
          refine (one_any B b _ 3 w4 HS4.out (by omega) (by omega) (by omega)).mono ?_
          rintro e w5 ⟨x5, rfl, hs5, ho5⟩
          have HOWN5 := Lib.hid (own_only HOWN4.out HB.out ho5)
          have HO5 := Lib.hid (only_trans HO4.out ho5)
          have HS5 := Lib.hid hs5
          clear hs5 ho5
          cases x5 with
          | false =>
            go_wp2
            go_roundw
            case rel => exact ⟨P, q + 1, HOWN5.out, by go_num, by omega, by omega, HD.out.skip, by simp, HS5.out.more (by omega), HO5.out⟩
            case measure => simp [RowKit.intOf]; omega
          | true =>
            go_wp2_with (fail)
            refine (one_any B b _ 20 w5 HS5.out (by omega) (by omega) (by omega)).mono ?_
            rintro e w6 ⟨x6, rfl, hs6, ho6⟩
            have HOWN6 := Lib.hid (own_only HOWN5.out HB.out ho6)
            have HO6 := Lib.hid (only_trans HO5.out ho6)
            have HS6 := Lib.hid hs6
            clear hs6 ho6
            cases x6 with
            | false =>
              have HOWN7 := HOWN6
              have HO7 := HO6
              have HS7 := HS6
              have HE : Hid ((stepE q old ⟨l4.toArray⟩).kind = 0 ∨ (okEdit (stepE q old ⟨l4.toArray⟩) = true ∧ (stepE q old ⟨l4.toArray⟩).id = q)) := Lib.hid (by
                rcases stepE_ok (i := q) (by omega) (by omega) HFO.out (sent_txt HL4.out) with h | ⟨h1, h2, _⟩
                · left; rw [h]; rfl
                · exact .inr ⟨h1, h2⟩)
              have HST : Hid (Calls Try.prog 55 #[.int .i64 q, .string old, .string ⟨l4.toArray⟩] w6 (RetB (.agg #[.int .i64 (stepE q old ⟨l4.toArray⟩).kind, .int .i64 (stepE q old ⟨l4.toArray⟩).id, .string (stepE q old ⟨l4.toArray⟩).old, .string (stepE q old ⟨l4.toArray⟩).new]) w6)) := Lib.hid (step1_any q old ⟨l4.toArray⟩ w6)
              generalize stepE q old ⟨l4.toArray⟩ = E at HE HST
              go_wp2_with (fail)
              refine (HST.out).mono ?_
              rintro e w8 ⟨rfl, hb8⟩
              have hown8 := own_below HOWN7.out hb8
              have hO8 := only_below' HO7.out hb8 HO7.out.size
              have hS8 := HS7.out.below hb8 HS7.out.lt.1
              have HOWN8 := Lib.hid hown8
              have HO8 := Lib.hid hO8
              have HS8 := Lib.hid hS8
              have hsz8 := hO8.size
              clear hown8 hO8 hS8 hb8
              by_cases hk0 : E.kind = 0
              · have e0 : (E.kind != 0) = false := by simp [hk0]
                have HO9 := Lib.hid (only_alloc HO8.out (.cells #[.int .i64 E.kind, .int .i64 E.id, .string E.old, .string E.new] 59))
                have HS9 := Lib.hid (HS8.out.alloc (.cells #[.int .i64 E.kind, .int .i64 E.id, .string E.old, .string E.new] 59))
                have HOWN9 := Lib.hid (HOWN8.out.alloc (.cells #[.int .i64 E.kind, .int .i64 E.id, .string E.old, .string E.new] 59))
                clear hk0
                go_wp2
                go_roundw
                case rel => exact ⟨P, q + 1, HOWN9.out, by go_num, by omega, by omega, HD.out.skip, by simp, HS9.out.more (by omega), HO9.out⟩
                case measure => simp [RowKit.intOf]; omega
              · have e0 : (E.kind != 0) = true := by simp [hk0]
                have HE2 := Lib.hid (HE.out.resolve_left hk0)
                clear hk0
                go_wp2_with (at_builtin; refine wpList_append_own _ rfl _ _ 25 rfl w.heap.size 59 i0 (.agg #[.int .i64 0, .int .i64 0, .string ⟨#[]⟩, .string ⟨#[]⟩]) 4 48 Try.underlying25 hi hz0 hz1 hz2 rfl (by decide) _ _ _ rfl ((HOWN8.out.alloc _).alloc _) ⟨w8.heap.size + 1, 0, none⟩ 1 1 (editCells E) rfl rfl (fun j u hj => new_at2 hj) (fun u hu => edit_one hu) ?c3 ?c4 (base_le (base_le hsz8)) ?_)
                case c3 => unfold maxLen; omega
                case c4 => omega
                · intro v' w9 hown' hgrow hiff
                  have hnn' : v' ≠ .slice none 0 0 := by simpa using hiff
                  have hr : ∀ j, (Value.slice (some ⟨g, 0, none⟩) P.length cap).ownBlock = some j → w.heap.size ≤ j := fun j hj => (HOWN8.out.lt j hj).1
                  have HO9 := Lib.hid (only_grown (only_alloc (only_alloc HO8.out _) _) hgrow hr)
                  have HS9 := Lib.hid (((HS8.out.alloc _).alloc _).grown hgrow (fun j hj => Nat.lt_of_lt_of_le HB.out (hr j hj)))
                  clear hgrow hiff hr
                  go_wp2
                  go_roundw
                  case rel => exact ⟨P ++ [E], q + 1, by rw [flat_snoc, List.length_append]; exact hown', by go_num, by omega, by omega, HD.out.snoc HE2.out.1 HE2.out.2, hnn', HS9.out.more (by omega), HO9.out⟩
                  case measure => simp [RowKit.intOf]; omega
            | true =>
              go_wp2_with (fail)
              refine (drawSent_any B b _ w6 HS6.out (by omega)).mono ?_
              rintro e w7 ⟨l7, hl7, rfl, hs7, ho7⟩
              have HOWN7 := Lib.hid (own_only HOWN6.out HB.out ho7)
              have HO7 := Lib.hid (only_trans HO6.out ho7)
              have HS7 := Lib.hid hs7
              have HL7 := Lib.hid hl7
              clear hs7 ho7 hl7
              have HE : Hid ((stepE q ⟨l7.toArray⟩ ⟨l4.toArray⟩).kind = 0 ∨ (okEdit (stepE q ⟨l7.toArray⟩ ⟨l4.toArray⟩) = true ∧ (stepE q ⟨l7.toArray⟩ ⟨l4.toArray⟩).id = q)) := Lib.hid (by
                rcases stepE_ok (i := q) (by omega) (by omega) (sent_txt HL7.out) (sent_txt HL4.out) with h | ⟨h1, h2, _⟩
                · left; rw [h]; rfl
                · exact .inr ⟨h1, h2⟩)
              have HST : Hid (Calls Try.prog 55 #[.int .i64 q, .string ⟨l7.toArray⟩, .string ⟨l4.toArray⟩] w7 (RetB (.agg #[.int .i64 (stepE q ⟨l7.toArray⟩ ⟨l4.toArray⟩).kind, .int .i64 (stepE q ⟨l7.toArray⟩ ⟨l4.toArray⟩).id, .string (stepE q ⟨l7.toArray⟩ ⟨l4.toArray⟩).old, .string (stepE q ⟨l7.toArray⟩ ⟨l4.toArray⟩).new]) w7)) := Lib.hid (step1_any q ⟨l7.toArray⟩ ⟨l4.toArray⟩ w7)
              generalize stepE q ⟨l7.toArray⟩ ⟨l4.toArray⟩ = E at HE HST
              go_wp2_with (fail)
              refine (HST.out).mono ?_
              rintro e w8 ⟨rfl, hb8⟩
              have hown8 := own_below HOWN7.out hb8
              have hO8 := only_below' HO7.out hb8 HO7.out.size
              have hS8 := HS7.out.below hb8 HS7.out.lt.1
              have HOWN8 := Lib.hid hown8
              have HO8 := Lib.hid hO8
              have HS8 := Lib.hid hS8
              have hsz8 := hO8.size
              clear hown8 hO8 hS8 hb8
              by_cases hk0 : E.kind = 0
              · have e0 : (E.kind != 0) = false := by simp [hk0]
                have HO9 := Lib.hid (only_alloc HO8.out (.cells #[.int .i64 E.kind, .int .i64 E.id, .string E.old, .string E.new] 59))
                have HS9 := Lib.hid (HS8.out.alloc (.cells #[.int .i64 E.kind, .int .i64 E.id, .string E.old, .string E.new] 59))
                have HOWN9 := Lib.hid (HOWN8.out.alloc (.cells #[.int .i64 E.kind, .int .i64 E.id, .string E.old, .string E.new] 59))
                clear hk0
                go_wp2
                go_roundw
                case rel => exact ⟨P, q + 1, HOWN9.out, by go_num, by omega, by omega, HD.out.skip, by simp, HS9.out.more (by omega), HO9.out⟩
                case measure => simp [RowKit.intOf]; omega
              · have e0 : (E.kind != 0) = true := by simp [hk0]
                have HE2 := Lib.hid (HE.out.resolve_left hk0)
                clear hk0
                go_wp2_with (at_builtin; refine wpList_append_own _ rfl _ _ 25 rfl w.heap.size 59 i0 (.agg #[.int .i64 0, .int .i64 0, .string ⟨#[]⟩, .string ⟨#[]⟩]) 4 48 Try.underlying25 hi hz0 hz1 hz2 rfl (by decide) _ _ _ rfl ((HOWN8.out.alloc _).alloc _) ⟨w8.heap.size + 1, 0, none⟩ 1 1 (editCells E) rfl rfl (fun j u hj => new_at2 hj) (fun u hu => edit_one hu) ?c3 ?c4 (base_le (base_le hsz8)) ?_)
                case c3 => unfold maxLen; omega
                case c4 => omega
                · intro v' w9 hown' hgrow hiff
                  have hnn' : v' ≠ .slice none 0 0 := by simpa using hiff
                  have hr : ∀ j, (Value.slice (some ⟨g, 0, none⟩) P.length cap).ownBlock = some j → w.heap.size ≤ j := fun j hj => (HOWN8.out.lt j hj).1
                  have HO9 := Lib.hid (only_grown (only_alloc (only_alloc HO8.out _) _) hgrow hr)
                  have HS9 := Lib.hid (((HS8.out.alloc _).alloc _).grown hgrow (fun j hj => Nat.lt_of_lt_of_le HB.out (hr j hj)))
                  clear hgrow hiff hr
                  go_wp2
                  go_roundw
                  case rel => exact ⟨P ++ [E], q + 1, by rw [flat_snoc, List.length_append]; exact hown', by go_num, by omega, by omega, HD.out.snoc HE2.out.1 HE2.out.2, hnn', HS9.out.more (by omega), HO9.out⟩
                  case measure => simp [RowKit.intOf]; omega
        · have e0 : (old.toList == []) = false := by simp [h0]
          have e0' : (old.toList != []) = true := by simp [h0]
          clear h0
          go_wp2_with (fail)
          refine (one_any B b _ 3 w4 HS4.out (by omega) (by omega) (by omega)).mono ?_
          rintro e w5 ⟨x5, rfl, hs5, ho5⟩
          have HOWN5 := Lib.hid (own_only HOWN4.out HB.out ho5)
          have HO5 := Lib.hid (only_trans HO4.out ho5)
          have HS5 := Lib.hid hs5
          clear hs5 ho5
          cases x5 with
          | false =>
            go_wp2_with (fail)
            refine (one_any B b _ 20 w5 HS5.out (by omega) (by omega) (by omega)).mono ?_
            rintro e w6 ⟨x6, rfl, hs6, ho6⟩
            have HOWN6 := Lib.hid (own_only HOWN5.out HB.out ho6)
            have HO6 := Lib.hid (only_trans HO5.out ho6)
            have HS6 := Lib.hid hs6
            clear hs6 ho6
            cases x6 with
            | false =>
              have HOWN7 := HOWN6
              have HO7 := HO6
              have HS7 := HS6
              have HE : Hid ((stepE q old ⟨l4.toArray⟩).kind = 0 ∨ (okEdit (stepE q old ⟨l4.toArray⟩) = true ∧ (stepE q old ⟨l4.toArray⟩).id = q)) := Lib.hid (by
                rcases stepE_ok (i := q) (by omega) (by omega) HFO.out (sent_txt HL4.out) with h | ⟨h1, h2, _⟩
                · left; rw [h]; rfl
                · exact .inr ⟨h1, h2⟩)
              have HST : Hid (Calls Try.prog 55 #[.int .i64 q, .string old, .string ⟨l4.toArray⟩] w6 (RetB (.agg #[.int .i64 (stepE q old ⟨l4.toArray⟩).kind, .int .i64 (stepE q old ⟨l4.toArray⟩).id, .string (stepE q old ⟨l4.toArray⟩).old, .string (stepE q old ⟨l4.toArray⟩).new]) w6)) := Lib.hid (step1_any q old ⟨l4.toArray⟩ w6)
              generalize stepE q old ⟨l4.toArray⟩ = E at HE HST
              go_wp2_with (fail)
              refine (HST.out).mono ?_
              rintro e w8 ⟨rfl, hb8⟩
              have hown8 := own_below HOWN7.out hb8
              have hO8 := only_below' HO7.out hb8 HO7.out.size
              have hS8 := HS7.out.below hb8 HS7.out.lt.1
              have HOWN8 := Lib.hid hown8
              have HO8 := Lib.hid hO8
              have HS8 := Lib.hid hS8
              have hsz8 := hO8.size
              clear hown8 hO8 hS8 hb8
              by_cases hk0 : E.kind = 0
              · have e0 : (E.kind != 0) = false := by simp [hk0]
                have HO9 := Lib.hid (only_alloc HO8.out (.cells #[.int .i64 E.kind, .int .i64 E.id, .string E.old, .string E.new] 59))
                have HS9 := Lib.hid (HS8.out.alloc (.cells #[.int .i64 E.kind, .int .i64 E.id, .string E.old, .string E.new] 59))
                have HOWN9 := Lib.hid (HOWN8.out.alloc (.cells #[.int .i64 E.kind, .int .i64 E.id, .string E.old, .string E.new] 59))
                clear hk0
                go_wp2
                go_roundw
                case rel => exact ⟨P, q + 1, HOWN9.out, by go_num, by omega, by omega, HD.out.skip, by simp, HS9.out.more (by omega), HO9.out⟩
                case measure => simp [RowKit.intOf]; omega
              · have e0 : (E.kind != 0) = true := by simp [hk0]
                have HE2 := Lib.hid (HE.out.resolve_left hk0)
                clear hk0
                go_wp2_with (at_builtin; refine wpList_append_own _ rfl _ _ 25 rfl w.heap.size 59 i0 (.agg #[.int .i64 0, .int .i64 0, .string ⟨#[]⟩, .string ⟨#[]⟩]) 4 48 Try.underlying25 hi hz0 hz1 hz2 rfl (by decide) _ _ _ rfl ((HOWN8.out.alloc _).alloc _) ⟨w8.heap.size + 1, 0, none⟩ 1 1 (editCells E) rfl rfl (fun j u hj => new_at2 hj) (fun u hu => edit_one hu) ?c3 ?c4 (base_le (base_le hsz8)) ?_)
                case c3 => unfold maxLen; omega
                case c4 => omega
                · intro v' w9 hown' hgrow hiff
                  have hnn' : v' ≠ .slice none 0 0 := by simpa using hiff
                  have hr : ∀ j, (Value.slice (some ⟨g, 0, none⟩) P.length cap).ownBlock = some j → w.heap.size ≤ j := fun j hj => (HOWN8.out.lt j hj).1
                  have HO9 := Lib.hid (only_grown (only_alloc (only_alloc HO8.out _) _) hgrow hr)
                  have HS9 := Lib.hid (((HS8.out.alloc _).alloc _).grown hgrow (fun j hj => Nat.lt_of_lt_of_le HB.out (hr j hj)))
                  clear hgrow hiff hr
                  go_wp2
                  go_roundw
                  case rel => exact ⟨P ++ [E], q + 1, by rw [flat_snoc, List.length_append]; exact hown', by go_num, by omega, by omega, HD.out.snoc HE2.out.1 HE2.out.2, hnn', HS9.out.more (by omega), HO9.out⟩
                  case measure => simp [RowKit.intOf]; omega
            | true =>
              go_wp2_with (fail)
              refine (drawSent_any B b _ w6 HS6.out (by omega)).mono ?_
              rintro e w7 ⟨l7, hl7, rfl, hs7, ho7⟩
              have HOWN7 := Lib.hid (own_only HOWN6.out HB.out ho7)
              have HO7 := Lib.hid (only_trans HO6.out ho7)
              have HS7 := Lib.hid hs7
              have HL7 := Lib.hid hl7
              clear hs7 ho7 hl7
              have HE : Hid ((stepE q ⟨l7.toArray⟩ ⟨l4.toArray⟩).kind = 0 ∨ (okEdit (stepE q ⟨l7.toArray⟩ ⟨l4.toArray⟩) = true ∧ (stepE q ⟨l7.toArray⟩ ⟨l4.toArray⟩).id = q)) := Lib.hid (by
                rcases stepE_ok (i := q) (by omega) (by omega) (sent_txt HL7.out) (sent_txt HL4.out) with h | ⟨h1, h2, _⟩
                · left; rw [h]; rfl
                · exact .inr ⟨h1, h2⟩)
              have HST : Hid (Calls Try.prog 55 #[.int .i64 q, .string ⟨l7.toArray⟩, .string ⟨l4.toArray⟩] w7 (RetB (.agg #[.int .i64 (stepE q ⟨l7.toArray⟩ ⟨l4.toArray⟩).kind, .int .i64 (stepE q ⟨l7.toArray⟩ ⟨l4.toArray⟩).id, .string (stepE q ⟨l7.toArray⟩ ⟨l4.toArray⟩).old, .string (stepE q ⟨l7.toArray⟩ ⟨l4.toArray⟩).new]) w7)) := Lib.hid (step1_any q ⟨l7.toArray⟩ ⟨l4.toArray⟩ w7)
              generalize stepE q ⟨l7.toArray⟩ ⟨l4.toArray⟩ = E at HE HST
              go_wp2_with (fail)
              refine (HST.out).mono ?_
              rintro e w8 ⟨rfl, hb8⟩
              have hown8 := own_below HOWN7.out hb8
              have hO8 := only_below' HO7.out hb8 HO7.out.size
              have hS8 := HS7.out.below hb8 HS7.out.lt.1
              have HOWN8 := Lib.hid hown8
              have HO8 := Lib.hid hO8
              have HS8 := Lib.hid hS8
              have hsz8 := hO8.size
              clear hown8 hO8 hS8 hb8
              by_cases hk0 : E.kind = 0
              · have e0 : (E.kind != 0) = false := by simp [hk0]
                have HO9 := Lib.hid (only_alloc HO8.out (.cells #[.int .i64 E.kind, .int .i64 E.id, .string E.old, .string E.new] 59))
                have HS9 := Lib.hid (HS8.out.alloc (.cells #[.int .i64 E.kind, .int .i64 E.id, .string E.old, .string E.new] 59))
                have HOWN9 := Lib.hid (HOWN8.out.alloc (.cells #[.int .i64 E.kind, .int .i64 E.id, .string E.old, .string E.new] 59))
                clear hk0
                go_wp2
                go_roundw
                case rel => exact ⟨P, q + 1, HOWN9.out, by go_num, by omega, by omega, HD.out.skip, by simp, HS9.out.more (by omega), HO9.out⟩
                case measure => simp [RowKit.intOf]; omega
              · have e0 : (E.kind != 0) = true := by simp [hk0]
                have HE2 := Lib.hid (HE.out.resolve_left hk0)
                clear hk0
                go_wp2_with (at_builtin; refine wpList_append_own _ rfl _ _ 25 rfl w.heap.size 59 i0 (.agg #[.int .i64 0, .int .i64 0, .string ⟨#[]⟩, .string ⟨#[]⟩]) 4 48 Try.underlying25 hi hz0 hz1 hz2 rfl (by decide) _ _ _ rfl ((HOWN8.out.alloc _).alloc _) ⟨w8.heap.size + 1, 0, none⟩ 1 1 (editCells E) rfl rfl (fun j u hj => new_at2 hj) (fun u hu => edit_one hu) ?c3 ?c4 (base_le (base_le hsz8)) ?_)
                case c3 => unfold maxLen; omega
                case c4 => omega
                · intro v' w9 hown' hgrow hiff
                  have hnn' : v' ≠ .slice none 0 0 := by simpa using hiff
                  have hr : ∀ j, (Value.slice (some ⟨g, 0, none⟩) P.length cap).ownBlock = some j → w.heap.size ≤ j := fun j hj => (HOWN8.out.lt j hj).1
                  have HO9 := Lib.hid (only_grown (only_alloc (only_alloc HO8.out _) _) hgrow hr)
                  have HS9 := Lib.hid (((HS8.out.alloc _).alloc _).grown hgrow (fun j hj => Nat.lt_of_lt_of_le HB.out (hr j hj)))
                  clear hgrow hiff hr
                  go_wp2
                  go_roundw
                  case rel => exact ⟨P ++ [E], q + 1, by rw [flat_snoc, List.length_append]; exact hown', by go_num, by omega, by omega, HD.out.snoc HE2.out.1 HE2.out.2, hnn', HS9.out.more (by omega), HO9.out⟩
                  case measure => simp [RowKit.intOf]; omega
          | true =>
            go_wp2_with (fail)
            refine (one_any B b _ 20 w5 HS5.out (by omega) (by omega) (by omega)).mono ?_
            rintro e w6 ⟨x6, rfl, hs6, ho6⟩
            have HOWN6 := Lib.hid (own_only HOWN5.out HB.out ho6)
            have HO6 := Lib.hid (only_trans HO5.out ho6)
            have HS6 := Lib.hid hs6
            clear hs6 ho6
            cases x6 with
            | false =>
              have HOWN7 := HOWN6
              have HO7 := HO6
              have HS7 := HS6
              have HE : Hid ((stepE q old ⟨#[]⟩).kind = 0 ∨ (okEdit (stepE q old ⟨#[]⟩) = true ∧ (stepE q old ⟨#[]⟩).id = q)) := Lib.hid (by
                rcases stepE_ok (i := q) (by omega) (by omega) HFO.out emp_txt with h | ⟨h1, h2, _⟩
                · left; rw [h]; rfl
                · exact .inr ⟨h1, h2⟩)
              have HST : Hid (Calls Try.prog 55 #[.int .i64 q, .string old, .string ⟨#[]⟩] w6 (RetB (.agg #[.int .i64 (stepE q old ⟨#[]⟩).kind, .int .i64 (stepE q old ⟨#[]⟩).id, .string (stepE q old ⟨#[]⟩).old, .string (stepE q old ⟨#[]⟩).new]) w6)) := Lib.hid (step1_any q old ⟨#[]⟩ w6)
              generalize stepE q old ⟨#[]⟩ = E at HE HST
              go_wp2_with (fail)
              refine (HST.out).mono ?_
              rintro e w8 ⟨rfl, hb8⟩
              have hown8 := own_below HOWN7.out hb8
              have hO8 := only_below' HO7.out hb8 HO7.out.size
              have hS8 := HS7.out.below hb8 HS7.out.lt.1
              have HOWN8 := Lib.hid hown8
              have HO8 := Lib.hid hO8
              have HS8 := Lib.hid hS8
              have hsz8 := hO8.size
              clear hown8 hO8 hS8 hb8
              by_cases hk0 : E.kind = 0
              · have e0 : (E.kind != 0) = false := by simp [hk0]
                have HO9 := Lib.hid (only_alloc HO8.out (.cells #[.int .i64 E.kind, .int .i64 E.id, .string E.old, .string E.new] 59))
                have HS9 := Lib.hid (HS8.out.alloc (.cells #[.int .i64 E.kind, .int .i64 E.id, .string E.old, .string E.new] 59))
                have HOWN9 := Lib.hid (HOWN8.out.alloc (.cells #[.int .i64 E.kind, .int .i64 E.id, .string E.old, .string E.new] 59))
                clear hk0
                go_wp2
                go_roundw
                case rel => exact ⟨P, q + 1, HOWN9.out, by go_num, by omega, by omega, HD.out.skip, by simp, HS9.out.more (by omega), HO9.out⟩
                case measure => simp [RowKit.intOf]; omega
              · have e0 : (E.kind != 0) = true := by simp [hk0]
                have HE2 := Lib.hid (HE.out.resolve_left hk0)
                clear hk0
                go_wp2_with (at_builtin; refine wpList_append_own _ rfl _ _ 25 rfl w.heap.size 59 i0 (.agg #[.int .i64 0, .int .i64 0, .string ⟨#[]⟩, .string ⟨#[]⟩]) 4 48 Try.underlying25 hi hz0 hz1 hz2 rfl (by decide) _ _ _ rfl ((HOWN8.out.alloc _).alloc _) ⟨w8.heap.size + 1, 0, none⟩ 1 1 (editCells E) rfl rfl (fun j u hj => new_at2 hj) (fun u hu => edit_one hu) ?c3 ?c4 (base_le (base_le hsz8)) ?_)
                case c3 => unfold maxLen; omega
                case c4 => omega
                · intro v' w9 hown' hgrow hiff
                  have hnn' : v' ≠ .slice none 0 0 := by simpa using hiff
                  have hr : ∀ j, (Value.slice (some ⟨g, 0, none⟩) P.length cap).ownBlock = some j → w.heap.size ≤ j := fun j hj => (HOWN8.out.lt j hj).1
                  have HO9 := Lib.hid (only_grown (only_alloc (only_alloc HO8.out _) _) hgrow hr)
                  have HS9 := Lib.hid (((HS8.out.alloc _).alloc _).grown hgrow (fun j hj => Nat.lt_of_lt_of_le HB.out (hr j hj)))
                  clear hgrow hiff hr
                  go_wp2
                  go_roundw
                  case rel => exact ⟨P ++ [E], q + 1, by rw [flat_snoc, List.length_append]; exact hown', by go_num, by omega, by omega, HD.out.snoc HE2.out.1 HE2.out.2, hnn', HS9.out.more (by omega), HO9.out⟩
                  case measure => simp [RowKit.intOf]; omega
            | true =>
              go_wp2_with (fail)
              refine (drawSent_any B b _ w6 HS6.out (by omega)).mono ?_
              rintro e w7 ⟨l7, hl7, rfl, hs7, ho7⟩
              have HOWN7 := Lib.hid (own_only HOWN6.out HB.out ho7)
              have HO7 := Lib.hid (only_trans HO6.out ho7)
              have HS7 := Lib.hid hs7
              have HL7 := Lib.hid hl7
              clear hs7 ho7 hl7
              have HE : Hid ((stepE q ⟨l7.toArray⟩ ⟨#[]⟩).kind = 0 ∨ (okEdit (stepE q ⟨l7.toArray⟩ ⟨#[]⟩) = true ∧ (stepE q ⟨l7.toArray⟩ ⟨#[]⟩).id = q)) := Lib.hid (by
                rcases stepE_ok (i := q) (by omega) (by omega) (sent_txt HL7.out) emp_txt with h | ⟨h1, h2, _⟩
                · left; rw [h]; rfl
                · exact .inr ⟨h1, h2⟩)
              have HST : Hid (Calls Try.prog 55 #[.int .i64 q, .string ⟨l7.toArray⟩, .string ⟨#[]⟩] w7 (RetB (.agg #[.int .i64 (stepE q ⟨l7.toArray⟩ ⟨#[]⟩).kind, .int .i64 (stepE q ⟨l7.toArray⟩ ⟨#[]⟩).id, .string (stepE q ⟨l7.toArray⟩ ⟨#[]⟩).old, .string (stepE q ⟨l7.toArray⟩ ⟨#[]⟩).new]) w7)) := Lib.hid (step1_any q ⟨l7.toArray⟩ ⟨#[]⟩ w7)
              generalize stepE q ⟨l7.toArray⟩ ⟨#[]⟩ = E at HE HST
              go_wp2_with (fail)
              refine (HST.out).mono ?_
              rintro e w8 ⟨rfl, hb8⟩
              have hown8 := own_below HOWN7.out hb8
              have hO8 := only_below' HO7.out hb8 HO7.out.size
              have hS8 := HS7.out.below hb8 HS7.out.lt.1
              have HOWN8 := Lib.hid hown8
              have HO8 := Lib.hid hO8
              have HS8 := Lib.hid hS8
              have hsz8 := hO8.size
              clear hown8 hO8 hS8 hb8
              by_cases hk0 : E.kind = 0
              · have e0 : (E.kind != 0) = false := by simp [hk0]
                have HO9 := Lib.hid (only_alloc HO8.out (.cells #[.int .i64 E.kind, .int .i64 E.id, .string E.old, .string E.new] 59))
                have HS9 := Lib.hid (HS8.out.alloc (.cells #[.int .i64 E.kind, .int .i64 E.id, .string E.old, .string E.new] 59))
                have HOWN9 := Lib.hid (HOWN8.out.alloc (.cells #[.int .i64 E.kind, .int .i64 E.id, .string E.old, .string E.new] 59))
                clear hk0
                go_wp2
                go_roundw
                case rel => exact ⟨P, q + 1, HOWN9.out, by go_num, by omega, by omega, HD.out.skip, by simp, HS9.out.more (by omega), HO9.out⟩
                case measure => simp [RowKit.intOf]; omega
              · have e0 : (E.kind != 0) = true := by simp [hk0]
                have HE2 := Lib.hid (HE.out.resolve_left hk0)
                clear hk0
                go_wp2_with (at_builtin; refine wpList_append_own _ rfl _ _ 25 rfl w.heap.size 59 i0 (.agg #[.int .i64 0, .int .i64 0, .string ⟨#[]⟩, .string ⟨#[]⟩]) 4 48 Try.underlying25 hi hz0 hz1 hz2 rfl (by decide) _ _ _ rfl ((HOWN8.out.alloc _).alloc _) ⟨w8.heap.size + 1, 0, none⟩ 1 1 (editCells E) rfl rfl (fun j u hj => new_at2 hj) (fun u hu => edit_one hu) ?c3 ?c4 (base_le (base_le hsz8)) ?_)
                case c3 => unfold maxLen; omega
                case c4 => omega
                · intro v' w9 hown' hgrow hiff
                  have hnn' : v' ≠ .slice none 0 0 := by simpa using hiff
                  have hr : ∀ j, (Value.slice (some ⟨g, 0, none⟩) P.length cap).ownBlock = some j → w.heap.size ≤ j := fun j hj => (HOWN8.out.lt j hj).1
                  have HO9 := Lib.hid (only_grown (only_alloc (only_alloc HO8.out _) _) hgrow hr)
                  have HS9 := Lib.hid (((HS8.out.alloc _).alloc _).grown hgrow (fun j hj => Nat.lt_of_lt_of_le HB.out (hr j hj)))
                  clear hgrow hiff hr
                  go_wp2
                  go_roundw
                  case rel => exact ⟨P ++ [E], q + 1, by rw [flat_snoc, List.length_append]; exact hown', by go_num, by omega, by omega, HD.out.snoc HE2.out.1 HE2.out.2, hnn', HS9.out.more (by omega), HO9.out⟩
                  case measure => simp [RowKit.intOf]; omega
    · have hq2 : ¬ (q : Int) ≤ 16 := by omega
      obtain rfl : q = 17 := by omega
      have HOL : Hid (OwnL editCells P w.heap.size wr (.slice (some ⟨g, 0, none⟩) P.length cap)) := Lib.hid (OwnL.of_own editCells (size := 4) (fun _ => rfl) HOWN.out)
      go_wp2
      go_ret
      exact ⟨_, P, rfl, HOL.out, HD.out.ok, HS.out.more (by omega), HO.out⟩
end Go.Proofs.Ytmgdodgofpapgaa

namespace Go.Proofs.Ytmgdodgofpapgaa
open Go.RowKit Go.Lib

/-- The edits that fit, as long as there is room. -/
def fitF (es : List Art) : Nat → List Edit → List Edit
  | _, [] => []
  | n, e :: r => if (findA es e.id).toList ≠ e.old.toList ∨ (e.kind = 1 ∧ 8 ≤ n) then fitF es n r else e :: fitF es (if e.kind = 1 then n + 1 else n) r
theorem fitF_skip {es : List Art} {n k : Nat} {P Q : List Edit} {e : Edit} {R : List Edit} (h : R = Q ++ fitF es n (P.drop k)) (hk : P[k]? = some e) (hc : (findA es e.id).toList ≠ e.old.toList ∨ (e.kind = 1 ∧ 8 ≤ n)) : R = Q ++ fitF es n (P.drop (k + 1)) := by
  obtain ⟨hlt, he⟩ := List.getElem?_eq_some_iff.1 hk
  rw [h, List.drop_eq_getElem_cons hlt, he, fitF, if_pos hc]
theorem fitF_take {es : List Art} {n k : Nat} {P Q : List Edit} {e : Edit} {R : List Edit} (h : R = Q ++ fitF es n (P.drop k)) (hk : P[k]? = some e) (h1 : (findA es e.id).toList = e.old.toList) (h2 : e.kind ≠ 1 ∨ n < 8) : R = (Q ++ [e]) ++ fitF es (if e.kind = 1 then n + 1 else n) (P.drop (k + 1)) := by
  obtain ⟨hlt, he⟩ := List.getElem?_eq_some_iff.1 hk
  rw [h, List.drop_eq_getElem_cons hlt, he, fitF, if_neg (by
    rintro (h | ⟨h3, h4⟩)
    · exact h h1
    · rcases h2 with h2 | h2
      · exact h2 h3
      · omega)]
  simp
theorem fitF_sub (es : List Art) : ∀ (P : List Edit) (n : Nat), (fitF es n P).Sublist P
  | [], _ => List.Sublist.refl _
  | e :: r, n => by
    rw [fitF]
    split
    · exact (fitF_sub es r n).cons _
    · exact (fitF_sub es r _).cons_cons _
theorem fitF_old (es : List Art) : ∀ (P : List Edit) (n : Nat), ∀ e ∈ fitF es n P, (findA es e.id).toList = e.old.toList
  | [], _, e, h => by cases h
  | a :: r, n, e, h => by
    rw [fitF] at h
    split at h
    · exact fitF_old es r n e h
    · rename_i hc
      rcases List.mem_cons.1 h with rfl | h
      · exact Classical.byContradiction fun hne => hc (.inl hne)
      · exact fitF_old es r _ e h
theorem fitF_room (es : List Art) : ∀ (P : List Edit) (n : Nat), n ≤ 8 → n + ((fitF es n P).filter (fun e => decide (e.kind = 1))).length ≤ 8
  | [], n, h => by simpa [fitF] using h
  | a :: r, n, h => by
    rw [fitF]
    split
    · exact fitF_room es r n h
    · rename_i hc
      by_cases hk : a.kind = 1
      · have hn : n < 8 := by
          rcases Nat.lt_or_ge n 8 with h8 | h8
          · exact h8
          · exact absurd (.inr ⟨hk, h8⟩) hc
        have := fitF_room es r (n + 1) (by omega)
        rw [if_pos hk, List.filter_cons, if_pos (by simp [hk]), List.length_cons]
        omega
      · have := fitF_room es r n h
        rw [if_neg hk, List.filter_cons, if_neg (by simp [hk])]
        exact this
theorem sub_ok {P Q : List Edit} (h : okPatch P = true) (hs : Q.Sublist P) : okPatch Q = true := by
  rw [okPatch_iff] at *
  exact ⟨fun a ha => h.1 a (hs.subset ha), h.2.1.sublist hs, Nat.le_trans hs.length_le h.2.2⟩

set_option maxRecDepth 100000 in
set_option maxHeartbeats 4000000 in
theorem fit1_any (es : List Art) (P : List Edit) (w : World) (vt vp : Value) (hT : Arts w w.heap.size vt es) (hP : Edits w w.heap.size vp P) (he8 : es.length ≤ 8) (hp16 : P.length ≤ 16) :
    Calls Try.prog 25 #[vt, vp] w (RetOwn editCells (fitF es es.length P) w) := by
  have HTT := Lib.hid hT
  obtain ⟨T, tc, rfl, _⟩ := hT
  obtain ⟨A, c, rfl, hc, hm, hel⟩ := hP
  unfold maxLen at hm
  have HEL := Lib.hid hel
  clear hel
  have HR : Hid (fitF es es.length P = [] ++ fitF es es.length (P.drop 0)) := Lib.hid rfl
  unfold RetOwn
  generalize fitF es es.length P = R at HR ⊢
  obtain ⟨i0, hi, hz0, hz1, hz2⟩ := info_parts Try.infoE
  have hown0 : (w.alloc (.cells #[] 59)).ownsRow w.heap.size 59 4 (.slice (some ⟨w.heap.size, 0, none⟩) 0 0) 0 [] := by simpa using World.ownsRow_made w #[] 0 (Nat.le_refl _) (Nat.zero_le _) rfl
  have HOWN0 := Lib.hid hown0
  have HB0 : Hid (Below w.heap.size w (w.alloc (.cells #[] 59))) := Lib.hid ((Below.refl _ _).alloc (Nat.le_refl _) _)
  clear hown0
  go_enter Try.func25, Try.ntmps25
  go_wp2
  go_loopw [5, 6, 7] (fun o n6 i wr => ∃ (Q : List Edit) (n k : Nat), wr.ownsRow w.heap.size 59 4 o Q.length (Q.flatMap editCells) ∧ i = .int .i64 (k : Int) ∧ n6 = .int .i64 (n : Int) ∧ Q.length ≤ k ∧ n ≤ 8 + k ∧ k ≤ P.length ∧ R = Q ++ fitF es n (P.drop k) ∧ o ≠ .slice none 0 0 ∧ Below w.heap.size w wr) (fun _ _ i _ => P.length - (RowKit.intOf i).toNat)
  case atStart => exact ⟨[], es.length, 0, HOWN0.out, rfl, rfl, by simp, by omega, by omega, HR.out, by simp, HB0.out⟩
  case round =>
    obtain ⟨Q, n, k, hown, rfl, rfl, hQk, hn8, hk, hR, hnn, hb⟩ := hrel
    obtain ⟨g, cap, rfl, hdc, hcm⟩ := own_some hown hnn
    unfold maxLen at hcm
    have HOWN := Lib.hid hown
    have HRR := Lib.hid hR
    clear hown hR hnn
    by_cases hlt : k < P.length
    · obtain ⟨b, off, rfl, hblt, hcell⟩ := HEL.out (by omega)
      have hget : P[k]? = some P[k] := List.getElem?_eq_getElem hlt
      obtain ⟨c0, c1, c2, c3⟩ := edits_at hcell hget
      have x0 := (hb.cell (p := ⟨b, off + k * 4, none⟩) hblt).trans c0
      have x1 := (hb.cell (p := ⟨b, off + k * 4 + 1, none⟩) hblt).trans c1
      have x2 := (hb.cell (p := ⟨b, off + k * 4 + 2, none⟩) hblt).trans c2
      have x3 := (hb.cell (p := ⟨b, off + k * 4 + 3, none⟩) hblt).trans c3
      have z0 := fun x : Aft wr => x.cell x0
      have z1 := fun x : Aft wr => x.cell x1
      have z2 := fun x : Aft wr => x.cell x2
      have HF : Hid (∀ x : Aft wr, Calls Try.prog 54 #[.slice T es.length tc, .int .i64 P[k].id] x.val (RetQ (.string (findA es P[k].id)) x.val)) := Lib.hid (fun x => find1_any es P[k].id x.val _ (SlR.on HTT.out (Pl.stays _) (hb.trans (x.ok.mono hb.size)) (hb.trans (x.ok.mono hb.size)).size))
      have HSKIP := Lib.hid (fun hc => fitF_skip HRR.out hget hc)
      have HTAKE := Lib.hid (fun h1 h2 => fitF_take HRR.out hget h1 h2)
      clear hget hcell c0 c1 c2 c3
      generalize P[k] = e at *
      by_cases h1 : (findA es e.id).toList = e.old.toList
      · have e1 : ((findA es e.id).toList == e.old.toList) = true := by simp [h1]
        by_cases h2 : e.kind = 1
        · have e2 : (e.kind == 1) = true := by simp [h2]
          by_cases h3 : 8 ≤ n
          · have e3 : decide ((8 : Int) ≤ (n : Int)) = true := by simp; omega
            have HS := Lib.hid (HSKIP.out (.inr ⟨h2, h3⟩))
            generalize findA es e.id = F at HF e1 h1
            clear h1 h2
            go_upto_region 6 with (fail)
            refine wp_region_aft (by kernel_rfl) (by kernel_rfl) ?_
            repeat (go_big_quiet_step ((go_at_call 54; exact aft_q (HF.out _))))
            refine wpQuiet_nil ?_
            rintro _ ⟨y, rfl⟩
            have bY := hb.trans (y.ok.mono hb.size)
            have HBY := Lib.hid bY
            have HOWNY := Lib.hid (own_below HOWN.out y.ok)
            have y0 := y.cell x0
            have y1 := y.cell x1
            have y2 := y.cell x2
            have y3 := y.cell x3
            clear z0 z1 z2 x0 x1 x2 x3
            go_wp2
            go_roundw
            case rel => exact ⟨Q, n, k + 1, HOWNY.out, by go_num, rfl, by omega, by omega, by omega, HS.out, by simp, HBY.out⟩
            case measure => simp [RowKit.intOf]; omega
          · have e3 : decide ((8 : Int) ≤ (n : Int)) = false := by simp; omega
            have HT := Lib.hid (HTAKE.out h1 (.inr (by omega)))
            rw [if_pos h2] at HT
            generalize findA es e.id = F at HF e1 h1
            clear h1 h2
            go_upto_region 6 with (fail)
            refine wp_region_aft (by kernel_rfl) (by kernel_rfl) ?_
            repeat (go_big_quiet_step ((go_at_call 54; exact aft_q (HF.out _))))
            refine wpQuiet_nil ?_
            rintro _ ⟨y, rfl⟩
            have bY := hb.trans (y.ok.mono hb.size)
            have HBY := Lib.hid bY
            have HOWNY := Lib.hid (own_below HOWN.out y.ok)
            have y0 := y.cell x0
            have y1 := y.cell x1
            have y2 := y.cell x2
            have y3 := y.cell x3
            clear z0 z1 z2 x0 x1 x2 x3
            have hown := HOWNY.out
            have hszy := HBY.out.size
            clear bY
            go_wp2_with (at_builtin; refine wpList_append_own _ rfl _ _ 25 rfl w.heap.size 59 i0 (.agg #[.int .i64 0, .int .i64 0, .string ⟨#[]⟩, .string ⟨#[]⟩]) 4 48 Try.underlying25 hi hz0 hz1 hz2 rfl (by decide) _ _ _ rfl (hown.alloc _) ⟨y.val.heap.size, 0, none⟩ 1 1 (editCells e) rfl rfl (fun j u hj => new_at hj) (fun u hu => edit_one hu) ?c3 ?c4 (base_le hszy) ?_)
            case c3 => unfold maxLen; omega
            case c4 => omega
            · intro v' w5 hown' hgrow hiff
              have hnn' : v' ≠ .slice none 0 0 := by simpa using hiff
              have hb5 := (HBY.out.alloc hszy _).grown hgrow (base_le hszy) (fun j hj => (hown.lt j hj).1)
              clear hown hgrow hiff
              go_wp2
              go_roundw
              case rel => exact ⟨Q ++ [e], n + 1, k + 1, by rw [flat_snoc, List.length_append]; exact hown', by go_num, by go_num, by rw [List.length_append]; simp; omega, by omega, by omega, HT.out, hnn', hb5⟩
              case measure => simp [RowKit.intOf]; omega
        · have e2 : (e.kind == 1) = false := by simp [h2]
          have HT := Lib.hid (HTAKE.out h1 (.inl h2))
          rw [if_neg h2] at HT
          generalize findA es e.id = F at HF e1 h1
          clear h1 h2
          go_upto_region 6 with (fail)
          refine wp_region_aft (by kernel_rfl) (by kernel_rfl) ?_
          repeat (go_big_quiet_step ((go_at_call 54; exact aft_q (HF.out _))))
          refine wpQuiet_nil ?_
          rintro _ ⟨y, rfl⟩
          have bY := hb.trans (y.ok.mono hb.size)
          have HBY := Lib.hid bY
          have HOWNY := Lib.hid (own_below HOWN.out y.ok)
          have y0 := y.cell x0
          have y1 := y.cell x1
          have y2 := y.cell x2
          have y3 := y.cell x3
          clear z0 z1 z2 x0 x1 x2 x3
          have hown := HOWNY.out
          have hszy := HBY.out.size
          clear bY
          go_wp2_with (at_builtin; refine wpList_append_own _ rfl _ _ 25 rfl w.heap.size 59 i0 (.agg #[.int .i64 0, .int .i64 0, .string ⟨#[]⟩, .string ⟨#[]⟩]) 4 48 Try.underlying25 hi hz0 hz1 hz2 rfl (by decide) _ _ _ rfl (hown.alloc _) ⟨y.val.heap.size, 0, none⟩ 1 1 (editCells e) rfl rfl (fun j u hj => new_at hj) (fun u hu => edit_one hu) ?c3 ?c4 (base_le hszy) ?_)
          case c3 => unfold maxLen; omega
          case c4 => omega
          · intro v' w5 hown' hgrow hiff
            have hnn' : v' ≠ .slice none 0 0 := by simpa using hiff
            have hb5 := (HBY.out.alloc hszy _).grown hgrow (base_le hszy) (fun j hj => (hown.lt j hj).1)
            clear hown hgrow hiff
            go_wp2
            go_roundw
            case rel => exact ⟨Q ++ [e], n, k + 1, by rw [flat_snoc, List.length_append]; exact hown', by go_num, by go_num, by rw [List.length_append]; simp; omega, by omega, by omega, HT.out, hnn', hb5⟩
            case measure => simp [RowKit.intOf]; omega
      · have e1 : ((findA es e.id).toList == e.old.toList) = false := by simp [h1]
        have HS := Lib.hid (HSKIP.out (.inl h1))
        generalize findA es e.id = F at HF e1 h1
        clear h1
        go_upto_region 6 with (fail)
        refine wp_region_aft (by kernel_rfl) (by kernel_rfl) ?_
        repeat (go_big_quiet_step ((go_at_call 54; exact aft_q (HF.out _))))
        refine wpQuiet_nil ?_
        rintro _ ⟨y, rfl⟩
        have bY := hb.trans (y.ok.mono hb.size)
        have HBY := Lib.hid bY
        have HOWNY := Lib.hid (own_below HOWN.out y.ok)
        have y0 := y.cell x0
        have y1 := y.cell x1
        have y2 := y.cell x2
        have y3 := y.cell x3
        clear z0 z1 z2 x0 x1 x2 x3
        go_wp2
        go_roundw
        case rel => exact ⟨Q, n, k + 1, HOWNY.out, by go_num, rfl, by omega, by omega, by omega, HS.out, by simp, HBY.out⟩
        case measure => simp [RowKit.intOf]; omega
    · have hge : ¬ (k : Int) < (P.length : Int) := by omega
      have HRQ : Hid (R = Q) := Lib.hid (by rw [HRR.out, List.drop_eq_nil_of_le (by omega)]; simp [fitF])
      have HOL : Hid (OwnL editCells Q w.heap.size wr (.slice (some ⟨g, 0, none⟩) Q.length cap)) := Lib.hid (OwnL.of_own editCells (size := 4) (fun _ => rfl) HOWN.out)
      go_wp2
      go_ret
      exact ⟨_, rfl, by rw [HRQ.out]; exact HOL.out, hb⟩
end Go.Proofs.Ytmgdodgofpapgaa

namespace Go.Proofs.Ytmgdodgofpapgaa
open Go.RowKit Go.Lib

/-- A patch that fits a statute. -/
structure Fits (S : List Art) (P : List Edit) : Prop where
  ok : okPatch P = true
  old : ∀ e ∈ P, (findA S e.id).toList = e.old.toList
  room : S.length + (P.filter (fun e => decide (e.kind = 1))).length ≤ 8
theorem Fits.of {S : List Art} {P : List Edit} (h : okPatch P = true) (h8 : S.length ≤ 8) : Fits S (fitF S S.length P) :=
  ⟨sub_ok h (fitF_sub S P _), fitF_old S P _, fitF_room S P _ h8⟩
def mixE (P : List Edit) (e : Edit) : Edit := if (editOf P e.id).kind = 0 then e else editOf P e.id
theorem kind_old {e : Edit} (h : okEdit e = true) : e.kind = 1 ↔ e.old.toList = [] := by
  obtain ⟨_, _, hk⟩ := okEdit_kinds h
  rcases hk with ⟨k, ho, _⟩ | ⟨k, ho, _⟩ | ⟨k, ho, _⟩
  · rw [ho, ByteArray.toList_eq]; simp [k]
  · have : e.old.toList ≠ [] := by intro h0; rw [h0] at ho; revert ho; decide
    simp [k, this]
  · have : e.old.toList ≠ [] := by intro h0; rw [h0] at ho; revert ho; decide
    simp [k, this]
theorem mixE_facts {S : List Art} {P Q : List Edit} (hP : Fits S P) (hQ : Fits S Q) {e : Edit} (he : e ∈ Q) : okEdit (mixE P e) = true ∧ (mixE P e).id = e.id ∧ (findA S e.id).toList = (mixE P e).old.toList := by
  have h1 := ((okPatch_iff Q).1 hQ.ok).1 e he
  unfold mixE
  split
  · exact ⟨h1, rfl, hQ.old e he⟩
  · rename_i hk
    rcases editOf_cases P e.id with ⟨hm, hi⟩ | ⟨hn, _⟩
    · refine ⟨((okPatch_iff P).1 hP.ok).1 _ hm, hi, ?_⟩
      have := hP.old _ hm
      rw [hi] at this
      exact this
    · rw [hn] at hk
      exact absurd rfl hk
theorem Fits.mix {S : List Art} {P Q : List Edit} (hP : Fits S P) (hQ : Fits S Q) : Fits S (Q.map (mixE P)) where
  ok := by
    have hq := (okPatch_iff Q).1 hQ.ok
    rw [okPatch_iff]
    refine ⟨fun a ha => ?_, ?_, by rw [List.length_map]; exact hq.2.2⟩
    · obtain ⟨e, he, rfl⟩ := List.mem_map.1 ha
      exact (mixE_facts hP hQ he).1
    · have hr := hq.2.1
      unfold RiseE at *
      rw [List.pairwise_map]
      exact hr.imp_of_mem (fun {a c} ha hc h => by rw [(mixE_facts hP hQ ha).2.1, (mixE_facts hP hQ hc).2.1]; exact h)
  old := fun a ha => by
    obtain ⟨e, he, rfl⟩ := List.mem_map.1 ha
    have := mixE_facts hP hQ he
    rw [this.2.1]
    exact this.2.2
  room := by
    have h := hQ.room
    have hq := (okPatch_iff Q).1 hQ.ok
    rw [List.filter_map, List.length_map]
    have : Q.filter ((fun e => decide (e.kind = 1)) ∘ mixE P) = Q.filter (fun e => decide (e.kind = 1)) := List.filter_congr (fun e he => by
      obtain ⟨h1, h2, h3⟩ := mixE_facts hP hQ he
      have a := kind_old h1
      have b := kind_old (hq.1 e he)
      rw [← h3] at a
      rw [← hQ.old e he] at b
      show decide ((mixE P e).kind = 1) = decide (e.kind = 1)
      rw [decide_eq_decide, a, b])
    rw [this]
    exact h

def StatutePost (w : World) (e : Ending) (w' : World) : Prop :=
  ∃ v1 v2 v3 S P Q, e = .returned (.tuple #[v1, v2, v3]) ∧ OwnL artCells S w.heap.size w' v1 ∧ OwnL editCells P w.heap.size w' v2 ∧ OwnL editCells Q w.heap.size w' v3 ∧ okStat S = true ∧ Fits S P ∧ Fits S Q ∧ Below w.heap.size w w'

theorem own_same {α : Type} {f : α → List Value} {xs : List α} {base b : Nat} {w w' : World} {v : Value} (h : OwnL f xs base w v) (ho : Only b w w') (hb : b < base) (h0 : b ≤ base) : OwnL f xs b w' v := (h.only hb ho).less h0

set_option maxRecDepth 100000 in
set_option maxHeartbeats 4000000 in
theorem statute_any (A : Option Addr) (n c : Nat) (w : World) (h : BytesAt w w.heap.size A n) :
    Calls Try.prog 7 #[.slice A n c] w (StatutePost w) := by
  have HF := Lib.hid (from_any A n c w h)
  clear h
  obtain ⟨i0, hi, hz0, hz1, hz2⟩ := info_parts Try.infoE
  go_enter Try.func7, Try.ntmps7
  go_wp2_with (fail)
  refine (HF.out).mono ?_
  rintro e w1 ⟨rfl, hs1, hb1⟩
  have HS1 := Lib.hid hs1
  have HB1 := Lib.hid hb1
  have hlt1 := hs1.lt.1
  clear hs1 hb1 HF
  go_wp2_with (fail)
  refine (drawOk_any w.heap.size w.heap.size 0 w1 HS1.out (by omega)).mono ?_
  rintro e w2 ⟨v1, S, rfl, hS, hokS, hs2, ho2⟩
  have HOKS := Lib.hid hokS
  have HS8 := Lib.hid (okStat_len hokS)
  have HB2 := Lib.hid (HB1.out.trans (only_below ho2 (Nat.le_refl _) (by omega)))
  have HT2 := Lib.hid hS
  have HS2 := Lib.hid hs2
  have hz2' := ho2.size
  obtain ⟨T1, t1, rfl, _⟩ := hS
  clear hokS hs2 ho2
  go_wp2_with (fail)
  refine (drawFor_any w.heap.size w.heap.size _ w1.heap.size S _ w2 HS2.out (by omega) HT2.out hlt1 HOKS.out).mono ?_
  rintro e w3 ⟨vp, P0, rfl, hP, hokP, hs3, ho3⟩
  have HOKP := Lib.hid hokP
  have hz3' := ho3.size
  have HT3 := Lib.hid (HT2.out.only hlt1 ho3)
  have HB3 := Lib.hid (HB2.out.trans (only_below ho3 (Nat.le_refl _) (by omega)))
  have HP3 := Lib.hid hP
  have HS3 := Lib.hid hs3
  obtain ⟨T2, t2, rfl, _⟩ := hP
  clear hokP hs3 ho3
  go_wp2_with (fail)
  refine (fit1_any S P0 w3 _ _ (HT3.out.slR (size := 2) (fun _ => rfl)) (HP3.out.slR (size := 4) (fun _ => rfl)) HS8.out (by have := okPatch_len HOKP.out; omega)).mono ?_
  rintro e w4 ⟨v2, rfl, hP4, hb4⟩
  have hz4' := hb4.size
  have HFP := Lib.hid (Fits.of HOKP.out HS8.out)
  generalize fitF S S.length P0 = P at hP4 HFP
  have HP4 := Lib.hid hP4
  have HT4 := Lib.hid (HT3.out.on hb4)
  have HB4 := Lib.hid (HB3.out.trans (hb4.mono (by omega)))
  have HS4 := Lib.hid (HS3.out.below hb4 (by omega))
  obtain ⟨T3, t3, rfl, _⟩ := hP4
  clear hb4 HP3
  go_wp2_with (fail)
  refine (drawFor_any w.heap.size w.heap.size _ w1.heap.size S _ w4 HS4.out (by omega) HT4.out hlt1 HOKS.out).mono ?_
  rintro e w5 ⟨vq, Q0, rfl, hQ, hokQ, hs5, ho5⟩
  have HOKQ := Lib.hid hokQ
  have hz5' := ho5.size
  have HT5 := Lib.hid (HT4.out.only hlt1 ho5)
  have HP5 := Lib.hid (HP4.out.only (by omega) ho5)
  have HB5 := Lib.hid (HB4.out.trans (only_below ho5 (Nat.le_refl _) (by omega)))
  have HQ5 := Lib.hid hQ
  have HS5 := Lib.hid hs5
  obtain ⟨T4, t4, rfl, _⟩ := hQ
  clear hokQ hs5 ho5
  go_wp2_with (fail)
  refine (fit1_any S Q0 w5 _ _ (HT5.out.slR (size := 2) (fun _ => rfl)) (HQ5.out.slR (size := 4) (fun _ => rfl)) HS8.out (by have := okPatch_len HOKQ.out; omega)).mono ?_
  rintro e w6 ⟨v3, rfl, hQ6, hb6⟩
  have hz6' := hb6.size
  have HFQ := Lib.hid (Fits.of HOKQ.out HS8.out)
  generalize fitF S S.length Q0 = Q at hQ6 HFQ
  have HQ6 := Lib.hid hQ6
  have HT6 := Lib.hid (HT5.out.on hb6)
  have HP6 := Lib.hid (HP5.out.on hb6)
  have HB6 := Lib.hid (HB5.out.trans (hb6.mono (by omega)))
  have HS6 := Lib.hid (HS5.out.below hb6 (by omega))
  obtain ⟨T5, t5, rfl, hq1, hq2, _⟩ := hQ6
  unfold maxLen at hq2
  clear hb6 HQ5
  go_wp2_with (fail)
  refine (one_any w.heap.size w.heap.size _ 2 w6 HS6.out (by omega) (by omega) (by omega)).mono ?_
  rintro e w7 ⟨x7, rfl, hs7, ho7⟩
  have hz7' := ho7.size
  have HT7 := Lib.hid (HT6.out.only hlt1 ho7)
  have HP7 := Lib.hid (HP6.out.only (by omega) ho7)
  have HQ7 := Lib.hid (HQ6.out.only (by omega) ho7)
  have HB7 := Lib.hid (HB6.out.trans (only_below ho7 (Nat.le_refl _) (by omega)))
  clear hs7 ho7
  cases x7 with
  | false =>
    go_wp2
    go_ret3
    exact ⟨_, _, _, S, P, Q, rfl, HT7.out.less (by omega), HP7.out.less (by omega), HQ7.out.less (by omega), HOKS.out, HFP.out, HFQ.out, HB7.out⟩
  | true =>
    have hown0 : (w7.alloc (.cells #[] 59)).ownsRow w7.heap.size 59 4 (.slice (some ⟨w7.heap.size, 0, none⟩) 0 0) 0 [] := by simpa using World.ownsRow_made w7 #[] 0 (Nat.le_refl _) (Nat.zero_le _) rfl
    have HOWN0 := Lib.hid hown0
    have HB0 : Hid (Below w7.heap.size w7 (w7.alloc (.cells #[] 59))) := Lib.hid ((Below.refl _ _).alloc (Nat.le_refl _) _)
    have HFK := Lib.hid (Fits.mix HFP.out HFQ.out)
    have HKM : Hid (∀ m, (h : m < Q.length) → (Q.map (mixE P))[m]? = some (mixE P Q[m])) := Lib.hid (fun m h => by rw [List.getElem?_map, List.getElem?_eq_getElem h]; rfl)
    have HKL : Hid ((Q.map (mixE P)).length = Q.length) := Lib.hid (List.length_map _)
    have hQ16 := okPatch_len HFQ.out.ok
    generalize Q.map (mixE P) = K at HFK HKM HKL
    clear hown0
    go_wp2
    go_loopw [9, 10] (fun o i wr => ∃ (m : Nat), wr.ownsRow w7.heap.size 59 4 o m ((K.take m).flatMap editCells) ∧ i = .int .i64 (m : Int) ∧ m ≤ Q.length ∧ o ≠ .slice none 0 0 ∧ Below w7.heap.size w7 wr) (fun _ i _ => Q.length - (RowKit.intOf i).toNat)
    case atStart => exact ⟨0, HOWN0.out, rfl, by omega, by simp, HB0.out⟩
    case round =>
      obtain ⟨m, hown, rfl, hm, hnn, hb⟩ := hrel
      obtain ⟨g, cap, rfl, hdc, hcm⟩ := own_some hown hnn
      unfold maxLen at hcm
      have HOWN := Lib.hid hown
      have HB := Lib.hid hb
      clear hown hnn hb
      by_cases hlt : m < Q.length
      · obtain ⟨A', c', hv, hc1, hc2, hel⟩ := HQ7.out.slR (size := 4) (fun _ => rfl)
        injection hv with hv1 hv2 hv3
        subst hv1 hv3
        obtain ⟨qb, off, hA', hblt, hcell⟩ := hel (by omega)
        subst hA'
        have hget : Q[m]? = some Q[m] := List.getElem?_eq_getElem hlt
        obtain ⟨c0, c1, c2, c3⟩ := edits_at hcell hget
        have x0 := (HB.out.cell (p := ⟨qb, off + m * 4, none⟩) hblt).trans c0
        have x1 := (HB.out.cell (p := ⟨qb, off + m * 4 + 1, none⟩) hblt).trans c1
        have x2 := (HB.out.cell (p := ⟨qb, off + m * 4 + 2, none⟩) hblt).trans c2
        have x3 := (HB.out.cell (p := ⟨qb, off + m * 4 + 3, none⟩) hblt).trans c3
        have HKT := Lib.hid (take_edits editCells (HKM.out m hlt))
        clear hget hcell c0 c1 c2 c3 hel hv2 hc1 hc2
        have HMX : Hid (mixE P Q[m] = if (editOf P Q[m].id).kind = 0 then Q[m] else editOf P Q[m].id) := Lib.hid rfl
        generalize mixE P Q[m] = M at HKT HMX
        have HED : Hid (Calls Try.prog 28 #[.slice T3 P.length t3, .int .i64 Q[m].id] wr (RetB (.agg #[.int .i64 (editOf P Q[m].id).kind, .int .i64 (editOf P Q[m].id).id, .string (editOf P Q[m].id).old, .string (editOf P Q[m].id).new]) wr)) := Lib.hid (editOf1_any P _ wr _ ((HP7.out.on HB.out).slR (size := 4) (fun _ => rfl)))
        generalize editOf P Q[m].id = F at HMX HED
        generalize Q[m] = q at *
        generalize (K.take m).flatMap editCells = L at *
        go_wp2_with (fail)
        refine (HED.out).mono ?_
        rintro e w8 ⟨rfl, hb8⟩
        have hown8 := own_below HOWN.out hb8
        have hbb8 := HB.out.trans (hb8.mono HB.out.size)
        have hsz8 := hbb8.size
        have hqb := World.block_lt_of_cell? wr ⟨qb, off + m * 4, none⟩ x0
        have y0 := (hb8.cell (p := ⟨qb, off + m * 4, none⟩) hqb).trans x0
        have y1 := (hb8.cell (p := ⟨qb, off + m * 4 + 1, none⟩) hqb).trans x1
        have y2 := (hb8.cell (p := ⟨qb, off + m * 4 + 2, none⟩) hqb).trans x2
        have y3 := (hb8.cell (p := ⟨qb, off + m * 4 + 3, none⟩) hqb).trans x3
        clear x0 x1 x2 x3 hb8
        by_cases hk0 : F.kind = 0
        · have e0 : (F.kind == 0) = true := by simp [hk0]
          have HM : Hid (M = q) := Lib.hid (by rw [HMX.out, if_pos hk0])
          have hal := (Below.refl w8.heap.size w8).alloc (Nat.le_refl _) (.cells #[.int .i64 F.kind, .int .i64 F.id, .string F.old, .string F.new] 59)
          have hq8 := World.block_lt_of_cell? w8 ⟨qb, off + m * 4, none⟩ y0
          have z0 := (hal.cell (p := ⟨qb, off + m * 4, none⟩) hq8).trans y0
          have z1 := (hal.cell (p := ⟨qb, off + m * 4 + 1, none⟩) hq8).trans y1
          have z2 := (hal.cell (p := ⟨qb, off + m * 4 + 2, none⟩) hq8).trans y2
          have z3 := (hal.cell (p := ⟨qb, off + m * 4 + 3, none⟩) hq8).trans y3
          clear hk0 hal y0 y1 y2 y3
          go_wp2_with (at_builtin; refine wpList_append_own _ rfl _ _ 25 rfl w7.heap.size 59 i0 (.agg #[.int .i64 0, .int .i64 0, .string ⟨#[]⟩, .string ⟨#[]⟩]) 4 48 Try.underlying25 hi hz0 hz1 hz2 rfl (by decide) _ _ _ rfl ((hown8.alloc _).alloc _) ⟨w8.heap.size + 1, 0, none⟩ 1 1 (editCells q) rfl rfl (fun j u hj => new_at2 hj) (fun u hu => edit_one hu) ?c3 ?c4 (base_le (base_le hsz8)) ?_)
          case c3 => unfold maxLen; omega
          case c4 => omega
          · intro v' w9 hown' hgrow hiff
            have hnn' : v' ≠ .slice none 0 0 := by simpa using hiff
            have hb9 := ((hbb8.alloc hsz8 _).alloc (base_le hsz8) _).grown hgrow (base_le (base_le hsz8)) (fun j hj => (hown8.lt j hj).1)
            clear hgrow hiff hown8
            go_wp2
            go_roundw
            case rel => exact ⟨m + 1, by rw [HKT.out, HM.out]; exact hown', by go_num, by omega, hnn', hb9⟩
            case measure => simp [RowKit.intOf]; omega
        · have e0 : (F.kind == 0) = false := by simp [hk0]
          have HM : Hid (M = F) := Lib.hid (by rw [HMX.out, if_neg hk0])
          clear hk0
          go_wp2_with (at_builtin; refine wpList_append_own _ rfl _ _ 25 rfl w7.heap.size 59 i0 (.agg #[.int .i64 0, .int .i64 0, .string ⟨#[]⟩, .string ⟨#[]⟩]) 4 48 Try.underlying25 hi hz0 hz1 hz2 rfl (by decide) _ _ _ rfl ((hown8.alloc _).alloc _) ⟨w8.heap.size + 1, 0, none⟩ 1 1 (editCells F) rfl rfl (fun j u hj => new_at2 hj) (fun u hu => edit_one hu) ?c3 ?c4 (base_le (base_le hsz8)) ?_)
          case c3 => unfold maxLen; omega
          case c4 => omega
          · intro v' w9 hown' hgrow hiff
            have hnn' : v' ≠ .slice none 0 0 := by simpa using hiff
            have hb9 := ((hbb8.alloc hsz8 _).alloc (base_le hsz8) _).grown hgrow (base_le (base_le hsz8)) (fun j hj => (hown8.lt j hj).1)
            clear hgrow hiff hown8
            go_wp2
            go_roundw
            case rel => exact ⟨m + 1, by rw [HKT.out, HM.out]; exact hown', by go_num, by omega, hnn', hb9⟩
            case measure => simp [RowKit.intOf]; omega
      · have hge : ¬ (m : Int) < (Q.length : Int) := by omega
        have hKL := HKL.out
        have hmk : m = K.length := by omega
        have hown := HOWN.out
        rw [List.take_of_length_le (by omega)] at hown
        have HOL : Hid (OwnL editCells K w7.heap.size wr (.slice (some ⟨g, 0, none⟩) m cap)) := Lib.hid (by rw [hmk]; exact OwnL.of_own editCells (size := 4) (fun _ => rfl) (by rw [← hmk]; exact hown))
        clear hown hmk hKL
        go_wp2
        go_ret3
        exact ⟨_, _, _, S, P, K, rfl, (HT7.out.on HB.out).less (by omega), (HP7.out.on HB.out).less (by omega), HOL.out.less (by omega), HOKS.out, HFP.out, HFK.out, HB7.out.trans (HB.out.mono (by omega))⟩
end Go.Proofs.Ytmgdodgofpapgaa

namespace Go.Proofs.Ytmgdodgofpapgaa
open Go.RowKit Go.Lib

theorem ba_ext {a b : ByteArray} (h : a.toList = b.toList) : a = b := by rw [← mk_toList a, ← mk_toList b, h]
theorem art_ext {x y : Art} (h1 : x.id = y.id) (h2 : x.text.toList = y.text.toList) : x = y := by
  obtain ⟨i, t⟩ := x
  obtain ⟨j, u⟩ := y
  simp only at h1 h2
  rw [h1, ba_ext h2]
theorem edit_ext {x y : Edit} (h1 : x.kind = y.kind) (h2 : x.id = y.id) (h3 : x.old.toList = y.old.toList) (h4 : x.new.toList = y.new.toList) : x = y := by
  obtain ⟨k, i, t, u⟩ := x
  obtain ⟨l, j, t', u'⟩ := y
  simp only at h1 h2 h3 h4
  rw [h1, h2, ba_ext h3, ba_ext h4]
theorem sizesOk_of {p : List Edit} (h : okPatch p = true) : SizesOk p := fun e he => by
  obtain ⟨_, _, h1, h2⟩ := okEdit_facts (((okPatch_iff p).1 h).1 e he)
  have e1 : e.old.toList.length = e.old.size := by rw [ByteArray.toList_eq]; simp
  have e2 : e.new.toList.length = e.new.size := by rw [ByteArray.toList_eq]; simp
  unfold SizeOk maxLen
  omega
theorem textsOk_of {s : List Art} (h : okStat s = true) : ∀ a ∈ s, a.text.size ≤ maxLen := fun a ha => by
  have := (okArt_facts (okStat_mem h ha)).2.2.2
  have e1 : a.text.toList.length = a.text.size := by rw [ByteArray.toList_eq]; simp
  unfold maxLen
  omega
theorem equal_art (x y : Art) (r : Bool) (hr : r = true ↔ x = y) (w : World) : (Op.equalIn 10000 70 (.agg #[.int .i64 x.id, .string x.text]) (.agg #[.int .i64 y.id, .string y.text])).run Try.prog w = .ok r w := by
  have hS : Try.prog.underlying 70 = some (.struct (Try.prog.fieldsOf 70)) := by kernel_rfl
  have hp : Try.prog.stoodInHeld 70 = false := by kernel_rfl
  have u9 := Try.underlying9
  have u2 := Try.underlying2
  have a9 := Try.isAgg9
  have a2 := Try.isAgg2
  have z9 := Try.sizeOf9
  have z2 := Try.sizeOf2
  rw [show (10000 : Nat) = 9999 + 1 from rfl, run_equalIn_agg w 9999 70 _ _ hS hp]
  simp only [Program.fieldsOf, Try.underlying70]
  go_simp
  by_cases h1 : x.id = y.id <;> by_cases h2 : x.text.toList = y.text.toList
  · have : r = true := hr.2 (art_ext h1 h2)
    subst this
    simp [h1, h2]
  · have : r = false := by
      rw [Bool.eq_false_iff]
      intro e
      exact h2 (by rw [hr.1 e])
    subst this
    simp [h1, h2]
  · have : r = false := by
      rw [Bool.eq_false_iff]
      intro e
      exact h1 (by rw [hr.1 e])
    subst this
    simp [h1]
  · have : r = false := by
      rw [Bool.eq_false_iff]
      intro e
      exact h1 (by rw [hr.1 e])
    subst this
    simp [h1]
theorem equal_edit (x y : Edit) (r : Bool) (hr : r = true ↔ x = y) (w : World) : (Op.equalIn 10000 59 (.agg #[.int .i64 x.kind, .int .i64 x.id, .string x.old, .string x.new]) (.agg #[.int .i64 y.kind, .int .i64 y.id, .string y.old, .string y.new])).run Try.prog w = .ok r w := by
  have hS : Try.prog.underlying 59 = some (.struct (Try.prog.fieldsOf 59)) := by kernel_rfl
  have hp : Try.prog.stoodInHeld 59 = false := by kernel_rfl
  have u9 := Try.underlying9
  have u2 := Try.underlying2
  have a9 := Try.isAgg9
  have a2 := Try.isAgg2
  have z9 := Try.sizeOf9
  have z2 := Try.sizeOf2
  rw [show (10000 : Nat) = 9999 + 1 from rfl, run_equalIn_agg w 9999 59 _ _ hS hp]
  simp only [Program.fieldsOf, Try.underlying59]
  go_simp
  cases hrv : r with
  | true =>
    have := hr.1 hrv
    subst this
    simp
  | false =>
    by_cases h1 : x.kind = y.kind <;> by_cases h2 : x.id = y.id <;> by_cases h3 : x.old.toList = y.old.toList <;> by_cases h4 : x.new.toList = y.new.toList <;> first | (simp [h1, h2, h3, h4]; done) | skip
    exact absurd (hr.2 (edit_ext h1 h2 h3 h4)) (by rw [hrv]; simp)

def SameLoop {α : Type} (xs ys : List α) (w : World) (e : Ending) (w' : World) : Prop := ∃ r : Bool, e = .returned (.bool r) ∧ (r = true ↔ xs = ys) ∧ Below w.heap.size w w'
theorem take_same {α : Type} {xs ys : List α} {k : Nat} {x y : α} (hx : xs[k]? = some x) (hy : ys[k]? = some y) (h : xs.take k = ys.take k) (hxy : x = y) : xs.take (k + 1) = ys.take (k + 1) := by
  obtain ⟨h1, h1'⟩ := List.getElem?_eq_some_iff.1 hx
  obtain ⟨h2, h2'⟩ := List.getElem?_eq_some_iff.1 hy
  rw [List.take_succ_eq_append_getElem h1, List.take_succ_eq_append_getElem h2, h, h1', h2', hxy]

set_option maxHeartbeats 2000000 in
theorem sameArts_any (xs ys : List Art) (w : World) (v1 v2 : Value) (h1 : Arts w w.heap.size v1 xs) (h2 : Arts w w.heap.size v2 ys) :
    Calls Try.prog 14 #[v1, v2] w (SameLoop xs ys w) := by
  obtain ⟨A1, c1, rfl, hc1, hm1, hel1⟩ := h1
  obtain ⟨A2, c2, rfl, hc2, hm2, hel2⟩ := h2
  unfold maxLen at hm1 hm2
  have HEL1 := Lib.hid hel1
  have HEL2 := Lib.hid hel2
  clear hel1 hel2
  by_cases hl : xs.length = ys.length
  · have hle : ((xs.length : Int) == (ys.length : Int)) = true := by simp [hl]
    have hli : (xs.length : Int) ≤ 9223372036854775807 := by omega
    have hgu : Try.prog.eqGuardType Try.prog.depth 70 = false := by kernel_rfl
    go_enter Try.func14, Try.ntmps14
    go_wp2
    go_loopw [5] (fun i wr => ∃ k : Nat, k ≤ xs.length ∧ i = .int .i64 (k : Int) ∧ xs.take k = ys.take k ∧ Below w.heap.size w wr) (fun i _ => xs.length - (RowKit.intOf i).toNat)
    case atStart => exact ⟨0, Nat.zero_le _, rfl, rfl, Below.refl _ _⟩
    case round =>
      obtain ⟨k, hk, rfl, ht, hb⟩ := hrel
      have HT := Lib.hid ht
      clear ht
      by_cases hlt : k < xs.length
      · obtain ⟨b1, o1, rfl, hb1, hcell1⟩ := HEL1.out (by omega)
        obtain ⟨b2, o2, rfl, hb2, hcell2⟩ := HEL2.out (by omega)
        have g1 : xs[k]? = some xs[k] := List.getElem?_eq_getElem hlt
        have g2 : ys[k]? = some (ys[k]'(by omega)) := List.getElem?_eq_getElem (by omega)
        obtain ⟨d0, d1⟩ := arts_at hcell1 g1
        obtain ⟨e0, e1⟩ := arts_at hcell2 g2
        have x0 := (hb.cell (p := ⟨b1, o1 + k * 2, none⟩) hb1).trans d0
        have x1 := (hb.cell (p := ⟨b1, o1 + k * 2 + 1, none⟩) hb1).trans d1
        have y0 := (hb.cell (p := ⟨b2, o2 + k * 2, none⟩) hb2).trans e0
        have y1 := (hb.cell (p := ⟨b2, o2 + k * 2 + 1, none⟩) hb2).trans e1
        have G1 := Lib.hid g1
        have G2 := Lib.hid g2
        clear hcell1 hcell2 d0 d1 e0 e1 g1 g2
        have hk2 : (k : Int) < (ys.length : Int) := by omega
        generalize xs[k] = x at *
        generalize (ys[k]'(by omega)) = y at *
        go_upto_region 6 with (fail)
        have z0 := fun x : Aft wr => x.cell x0
        have z1 := fun x : Aft wr => x.cell x1
        have z2 := fun x : Aft wr => x.cell y0
        have z3 := fun x : Aft wr => x.cell y1
        clear x0 x1 y0 y1
        by_cases hxy : x = y
        · have heq := equal_art x y true (by simp [hxy])
          have HN := Lib.hid (take_same G1.out G2.out HT.out hxy)
          clear hxy
          refine wp_region_aft (by kernel_rfl) (by kernel_rfl) ?_
          repeat (go_big_quiet_step (fail))
          refine wpQuiet_nil ?_
          rintro _ ⟨y, rfl⟩
          have bY := hb.trans (y.ok.mono hb.size)
          go_wp2
          go_roundw
          case rel => exact ⟨k + 1, by omega, by go_num, HN.out, bY⟩
          case measure => simp [RowKit.intOf]; omega
        · have heq := equal_art x y false (by simp [hxy])
          have HN : Hid (xs ≠ ys) := Lib.hid (fun e => hxy (by
            have a := G1.out
            rw [e, G2.out] at a
            exact (Option.some.inj a).symm))
          clear hxy
          refine wp_region_aft (by kernel_rfl) (by kernel_rfl) ?_
          repeat (go_big_quiet_step (fail))
          refine wpQuiet_nil ?_
          rintro _ ⟨y, rfl⟩
          have bY := hb.trans (y.ok.mono hb.size)
          go_wp2
          go_ret
          exact ⟨false, rfl, by simp [HN.out], bY⟩
      · have hge : ¬ (k : Int) < (xs.length : Int) := by omega
        have HN : Hid (xs = ys) := Lib.hid (by
          have := HT.out
          rw [List.take_of_length_le (by omega), List.take_of_length_le (by omega)] at this
          exact this)
        clear hl hk hlt
        go_wp2
        go_ret
        exact ⟨true, rfl, by simp [HN.out], hb⟩
  · have hle : ((xs.length : Int) == (ys.length : Int)) = false := by simp; omega
    have HN : Hid (xs ≠ ys) := Lib.hid (fun e => hl (by rw [e]))
    clear hl hc1 hc2 hm1 hm2 HEL1 HEL2
    generalize xs.length = n1 at hle ⊢
    generalize ys.length = n2 at hle ⊢
    go_enter Try.func14, Try.ntmps14
    go_wp2
    go_ret
    exact ⟨false, rfl, by simp [HN.out], Below.refl _ _⟩

set_option maxHeartbeats 2000000 in
theorem sameEdits_any (xs ys : List Edit) (w : World) (v1 v2 : Value) (h1 : Edits w w.heap.size v1 xs) (h2 : Edits w w.heap.size v2 ys) :
    Calls Try.prog 12 #[v1, v2] w (SameLoop xs ys w) := by
  obtain ⟨A1, c1, rfl, hc1, hm1, hel1⟩ := h1
  obtain ⟨A2, c2, rfl, hc2, hm2, hel2⟩ := h2
  unfold maxLen at hm1 hm2
  have HEL1 := Lib.hid hel1
  have HEL2 := Lib.hid hel2
  clear hel1 hel2
  by_cases hl : xs.length = ys.length
  · have hle : ((xs.length : Int) == (ys.length : Int)) = true := by simp [hl]
    have hli : (xs.length : Int) ≤ 9223372036854775807 := by omega
    have hgu : Try.prog.eqGuardType Try.prog.depth 59 = false := by kernel_rfl
    go_enter Try.func12, Try.ntmps12
    go_wp2
    go_loopw [5] (fun i wr => ∃ k : Nat, k ≤ xs.length ∧ i = .int .i64 (k : Int) ∧ xs.take k = ys.take k ∧ Below w.heap.size w wr) (fun i _ => xs.length - (RowKit.intOf i).toNat)
    case atStart => exact ⟨0, Nat.zero_le _, rfl, rfl, Below.refl _ _⟩
    case round =>
      obtain ⟨k, hk, rfl, ht, hb⟩ := hrel
      have HT := Lib.hid ht
      clear ht
      by_cases hlt : k < xs.length
      · obtain ⟨b1, o1, rfl, hb1, hcell1⟩ := HEL1.out (by omega)
        obtain ⟨b2, o2, rfl, hb2, hcell2⟩ := HEL2.out (by omega)
        have g1 : xs[k]? = some xs[k] := List.getElem?_eq_getElem hlt
        have g2 : ys[k]? = some (ys[k]'(by omega)) := List.getElem?_eq_getElem (by omega)
        obtain ⟨d0, d1, d2, d3⟩ := edits_at hcell1 g1
        obtain ⟨e0, e1, e2, e3⟩ := edits_at hcell2 g2
        have z0 := fun x : Aft wr => x.cell ((hb.cell (p := ⟨b1, o1 + k * 4, none⟩) hb1).trans d0)
        have z1 := fun x : Aft wr => x.cell ((hb.cell (p := ⟨b1, o1 + k * 4 + 1, none⟩) hb1).trans d1)
        have z2 := fun x : Aft wr => x.cell ((hb.cell (p := ⟨b1, o1 + k * 4 + 2, none⟩) hb1).trans d2)
        have z3 := fun x : Aft wr => x.cell ((hb.cell (p := ⟨b1, o1 + k * 4 + 3, none⟩) hb1).trans d3)
        have u0 := fun x : Aft wr => x.cell ((hb.cell (p := ⟨b2, o2 + k * 4, none⟩) hb2).trans e0)
        have u1 := fun x : Aft wr => x.cell ((hb.cell (p := ⟨b2, o2 + k * 4 + 1, none⟩) hb2).trans e1)
        have u2 := fun x : Aft wr => x.cell ((hb.cell (p := ⟨b2, o2 + k * 4 + 2, none⟩) hb2).trans e2)
        have u3 := fun x : Aft wr => x.cell ((hb.cell (p := ⟨b2, o2 + k * 4 + 3, none⟩) hb2).trans e3)
        have G1 := Lib.hid g1
        have G2 := Lib.hid g2
        clear hcell1 hcell2 d0 d1 d2 d3 e0 e1 e2 e3 g1 g2
        have hk2 : (k : Int) < (ys.length : Int) := by omega
        generalize xs[k] = x at *
        generalize (ys[k]'(by omega)) = y at *
        go_upto_region 6 with (fail)
        by_cases hxy : x = y
        · have heq := equal_edit x y true (by simp [hxy])
          have HN := Lib.hid (take_same G1.out G2.out HT.out hxy)
          clear hxy
          refine wp_region_aft (by kernel_rfl) (by kernel_rfl) ?_
          repeat (go_big_quiet_step (fail))
          refine wpQuiet_nil ?_
          rintro _ ⟨y, rfl⟩
          have bY := hb.trans (y.ok.mono hb.size)
          go_wp2
          go_roundw
          case rel => exact ⟨k + 1, by omega, by go_num, HN.out, bY⟩
          case measure => simp [RowKit.intOf]; omega
        · have heq := equal_edit x y false (by simp [hxy])
          have HN : Hid (xs ≠ ys) := Lib.hid (fun e => hxy (by
            have a := G1.out
            rw [e, G2.out] at a
            exact (Option.some.inj a).symm))
          clear hxy
          refine wp_region_aft (by kernel_rfl) (by kernel_rfl) ?_
          repeat (go_big_quiet_step (fail))
          refine wpQuiet_nil ?_
          rintro _ ⟨y, rfl⟩
          have bY := hb.trans (y.ok.mono hb.size)
          go_wp2
          go_ret
          exact ⟨false, rfl, by simp [HN.out], bY⟩
      · have hge : ¬ (k : Int) < (xs.length : Int) := by omega
        have HN : Hid (xs = ys) := Lib.hid (by
          have := HT.out
          rw [List.take_of_length_le (by omega), List.take_of_length_le (by omega)] at this
          exact this)
        clear hl hk hlt
        go_wp2
        go_ret
        exact ⟨true, rfl, by simp [HN.out], hb⟩
  · have hle : ((xs.length : Int) == (ys.length : Int)) = false := by simp; omega
    have HN : Hid (xs ≠ ys) := Lib.hid (fun e => hl (by rw [e]))
    clear hl hc1 hc2 hm1 hm2 HEL1 HEL2
    generalize xs.length = n1 at hle ⊢
    generalize ys.length = n2 at hle ⊢
    go_enter Try.func12, Try.ntmps12
    go_wp2
    go_ret
    exact ⟨false, rfl, by simp [HN.out], Below.refl _ _⟩
end Go.Proofs.Ytmgdodgofpapgaa

namespace Go.Proofs.Ytmgdodgofpapgaa
open Go.RowKit

set_option maxHeartbeats 400000 in
theorem long_no (A1 : Option Addr) (n1 c1 : Nat) (A2 : Option Addr) (n2 c2 : Nat) (w : World) (h1 : n1 ≤ 1048576) (h2 : n2 ≤ 1048576) :
    Calls Try.prog 6 #[.slice A1 n1 c1, .slice A2 n2 c2] w (RetQ (.bool false) w) := by
  have e1 : ¬ (1048576 : Int) < (n1 : Int) := by omega
  have e2 : decide ((1048576 : Int) < (n2 : Int)) = false := by simp; omega
  clear h1 h2
  go_enter Try.func6, Try.ntmps6
  go_wp2
  go_ret
  exact ⟨rfl, 0, rfl⟩
set_option maxHeartbeats 400000 in
theorem long_yes (A1 : Option Addr) (n1 c1 : Nat) (A2 : Option Addr) (n2 c2 : Nat) (w : World) (h : ¬ (n1 ≤ 1048576 ∧ n2 ≤ 1048576)) :
    Calls Try.prog 6 #[.slice A1 n1 c1, .slice A2 n2 c2] w (RetQ (.bool true) w) := by
  by_cases h1 : n1 ≤ 1048576
  · have e1 : ¬ (1048576 : Int) < (n1 : Int) := by omega
    have e2 : decide ((1048576 : Int) < (n2 : Int)) = true := by simp; omega
    clear h1 h
    go_enter Try.func6, Try.ntmps6
    go_wp2
    go_ret
    exact ⟨rfl, 0, rfl⟩
  · have e1 : (1048576 : Int) < (n1 : Int) := by omega
    clear h1 h
    go_enter Try.func6, Try.ntmps6
    go_wp2
    go_ret
    exact ⟨rfl, 0, rfl⟩
end Go.Proofs.Ytmgdodgofpapgaa
namespace Go.Proofs.Ytmgdodgofpapgaa
open Go.ChangeShapes Go.WideShapes Go.ChangeAt Go.RowKit
set_option maxRecDepth 100000 in
/-- What a slice of bytes that came in is. -/
theorem bytes_of {H : Type} {enc : TypeId × Value → H} {W : World} {v : Value} {d : DataW H} {p : List MemPlace} {r : Reach} {base : Nat} (hv : Value.okWide Try.prog W r base 22 v) (h : DataW.Trod enc Try.prog W 0 (fun _ => true) true 22 v d p) :
    ∃ A n c, v = .slice A n c ∧ BytesAt W W.heap.size A n := by
  obtain ⟨A, n, c, rfl⟩ := okWide_slice Try.underlying22 hv
  obtain ⟨fuel, hf⟩ := h
  have hlt := DataW.trod_lt fuel _ _ _ hf
  rcases open_ints Try.underlying22 Try.underlying5 (by kernel_rfl) hf with ⟨hcs, _⟩ | ⟨x, l, c', zs, hcs, _, hl, hm, hz, _, hcell, hwz⟩
  · simp [Value.cells] at hcs
    obtain ⟨rfl, rfl, rfl⟩ := hcs
    exact ⟨none, 0, 0, rfl, Nat.zero_le _, fun h => absurd h (Nat.lt_irrefl 0)⟩
  · simp [Value.cells] at hcs
    obtain ⟨rfl, rfl, rfl⟩ := hcs
    refine ⟨some x, n, c, rfl, Nat.le_trans hl hm, fun hn => ?_⟩
    have hz' : zs.length = c := by simpa using hz
    obtain ⟨b, off, spot⟩ := x
    have h0 := hcell 0 (by omega)
    have hspot : spot = none := by simpa [Addr.add] using World.cell?_spot h0
    subst hspot
    have hcl : ∀ i, i < zs.length → W.cell? ⟨b, off + i, none⟩ = some (.int .u8 (zs.getD i 0)) := fun i hi => by
      have e : (⟨b, off, none⟩ : Addr).add i = ⟨b, off + i, none⟩ := by
        unfold Addr.add
        by_cases h : i = 0 <;> simp [h]
      rw [← e]
      exact hcell i hi
    refine ⟨b, off, rfl, ?_, fun i hi => ?_⟩
    · have := hcl 0 (by omega)
      rcases Nat.lt_or_ge b W.heap.size with hlt' | hge
      · exact hlt'
      · simp [World.cell?, Array.getElem?_eq_none hge] at this
    · have hin : zs.getD i 0 ∈ zs := by
        rw [List.getD_eq_getElem?_getD, List.getElem?_eq_getElem (by omega)]
        exact List.getElem_mem _
      have hw := hwz _ hin
      have hb := bounds_u8 hw
      refine ⟨(zs.getD i 0).toNat, by omega, ?_⟩
      rw [hcl i (by omega)]
      congr 2
      omega

end Go.Proofs.Ytmgdodgofpapgaa
