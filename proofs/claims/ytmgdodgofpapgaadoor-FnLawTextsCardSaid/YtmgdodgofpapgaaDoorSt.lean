/- The texts of statutes, as plain functions. No program here. -/
import Derived.Test.YtmgdodgofpapgaaDoorRE
namespace Go.Proofs.YtmgdodgofpapgaaDoor
open Go.RowKit Go.Lib

structure Art where
  id : Int
  text : ByteArray
def artCells (a : Art) : List Value := [.int .i64 a.id, .string a.text]
def Arts (w : World) (B : Nat) (v : Value) (s : List Art) : Prop := SlR (Pl artCells) 2 w B v s
def okArt (a : Art) : Bool := inB a.id 1 99 && okSent a.text.toList
def artId (s : List Art) (k : Nat) : Int := ((s[k]?).map (·.id)).getD 0
def statAt (s : List Art) (k : Nat) : Bool := ((s[k]?).map okArt).getD true && (decide (k = 0) || decide (artId s (k - 1) < artId s k))
def okStat (s : List Art) : Bool := allLt s.length (statAt s) && decide (s.length ≤ 8)
def artLine (a : Art) : List UInt8 := itoa a.id ++ 32 :: a.text.toList
def statText (s : List Art) : List UInt8 := s.flatMap (fun a => artLine a ++ [10])

theorem arts_at {w : World} {B b off : Nat} {es : List Art} (h : ∀ (k : Nat) (x : Art), es[k]? = some x → ∃ us, us.length = 2 ∧ Pl artCells w B us x ∧ ∀ (j : Nat) (u : Value), us[j]? = some u → w.cell? ⟨b, off + k * 2 + j, none⟩ = some u) {k : Nat} {e : Art} (hk : es[k]? = some e) :
    w.cell? ⟨b, off + k * 2, none⟩ = some (.int .i64 e.id) ∧ w.cell? ⟨b, off + k * 2 + 1, none⟩ = some (.string e.text) := by
  obtain ⟨us, hl, hp, hc⟩ := h k e hk
  have hp : us = artCells e := hp
  subst hp
  exact ⟨hc 0 _ rfl, hc 1 _ rfl⟩
theorem statAt_bad {p : List Art} {k : Nat} {e : Art} (h : p[k]? = some e) (ho : okArt e = false) : statAt p k = false := by
  unfold statAt
  rw [h]
  simp [ho]
theorem statAt_zero {p : List Art} {k : Nat} {e : Art} (hk : k = 0) (h : p[k]? = some e) (ho : okArt e = true) : statAt p k = true := by
  subst hk
  unfold statAt
  rw [h]
  simp [ho]
theorem statAt_succ {p : List Art} {m : Nat} {d e : Art} (hd : p[m]? = some d) (h : p[m + 1]? = some e) (ho : okArt e = true) : statAt p (m + 1) = decide (d.id < e.id) := by
  unfold statAt artId
  rw [h]
  simp [ho, hd]
theorem okStat_bad {p : List Art} {k : Nat} (hk : k < p.length) (h : statAt p k = false) : okStat p = false := by
  unfold okStat
  rw [allLt_false hk h]
  rfl
theorem okStat_at {p : List Art} (h : okStat p = true) {k : Nat} {e : Art} (hk : p[k]? = some e) : okArt e = true := by
  unfold okStat at h
  rw [Bool.and_eq_true, allLt_true] at h
  have hlt : k < p.length := (List.getElem?_eq_some_iff.1 hk).1
  have := h.1 k hlt
  unfold statAt at this
  rw [hk, Bool.and_eq_true] at this
  exact this.1
theorem okStat_mem {p : List Art} (h : okStat p = true) {e : Art} (he : e ∈ p) : okArt e = true := by
  obtain ⟨k, hk⟩ := List.getElem?_of_mem he
  exact okStat_at h hk
theorem okStat_len {p : List Art} (h : okStat p = true) : p.length ≤ 8 := by
  unfold okStat at h
  rw [Bool.and_eq_true] at h
  exact of_decide_eq_true h.2
theorem okArt_facts {e : Art} (h : okArt e = true) : 1 ≤ e.id ∧ e.id ≤ 99 ∧ okSent e.text.toList = true ∧ e.text.toList.length ≤ 24 := by
  unfold okArt at h
  rw [Bool.and_eq_true, inB_iff] at h
  exact ⟨h.1.1, h.1.2, h.2, okSent_len h.2⟩
theorem artLine_len {e : Art} (h : okArt e = true) : (artLine e).length ≤ 60 := by
  obtain ⟨h1, h2, _, h4⟩ := okArt_facts h
  have := itoa_length_le e.id (by omega) (by omega)
  unfold artLine
  simp only [List.length_append, List.length_cons]
  omega
theorem statText_take {p : List Art} (h : okStat p = true) (k : Nat) : (statText (p.take k)).length ≤ 61 * k := by
  induction k with
  | zero => simp [statText]
  | succ k ih =>
    by_cases hlt : k < p.length
    · rw [List.take_succ_eq_append_getElem hlt]
      unfold statText at *
      rw [List.flatMap_append, List.length_append]
      have := artLine_len (okStat_at h (List.getElem?_eq_getElem hlt))
      simp only [List.flatMap_cons, List.flatMap_nil, List.append_nil, List.length_append, List.length_cons, List.length_nil]
      omega
    · have e1 : p.take k = p := List.take_of_length_le (by omega)
      have e2 : p.take (k + 1) = p := List.take_of_length_le (by omega)
      rw [e2]
      rw [e1] at ih
      omega
theorem statText_succ {p : List Art} {k : Nat} {e : Art} (hk : p[k]? = some e) : statText (p.take (k + 1)) = statText (p.take k) ++ (artLine e ++ [10]) := by
  have hlt : k < p.length := (List.getElem?_eq_some_iff.1 hk).1
  rw [List.take_succ_eq_append_getElem hlt]
  have : p[k] = e := by rw [List.getElem?_eq_getElem hlt] at hk; exact Option.some.inj hk
  unfold statText
  rw [List.flatMap_append, this]
  simp
theorem art_line_not {e : Art} (h : okArt e = true) : (10 : UInt8) ∉ artLine e := by
  obtain ⟨_, _, hs, _⟩ := okArt_facts h
  have hi : (10 : UInt8) ∉ itoa e.id := itoa_not _ (.inl (by decide))
  have := sent_not hs (c := 10) (.inl (by decide))
  unfold artLine
  simp [hi, this]
theorem stat_lines {q : List Art} (h : okStat q = true) : splitC 10 (statText q) = q.map artLine ++ [[]] := by
  have e : statText q = q.flatMap (fun x => artLine x ++ [10]) ++ [] := by
    rw [List.append_nil]
    rfl
  rw [e, splitC_lines 10 artLine q [] (fun x hx => art_line_not (okStat_mem h hx))]
  rfl
theorem last_art {t : List UInt8} : ∀ q, okStat q = true → statText q = t → (splitC 10 t).dropLast = q.map artLine := by
  intro q h e
  rw [← e, stat_lines h]
  simp
/-- The article with a line. -/
noncomputable def lineA (l : List UInt8) : Art := ⟨(numOf 1 99 (cutL 32 l).1).getD 0, ⟨(cutL 32 l).2.toArray⟩⟩
theorem lineA_of {e : Art} (h : okArt e = true) : lineA (artLine e) = e := by
  obtain ⟨i1, i2, _, _⟩ := okArt_facts h
  have hi' : (32 : UInt8) ∉ itoa e.id := itoa_not _ (.inl (by decide))
  have hn : numOf 1 99 (itoa e.id) = some e.id := numOf_of (by omega) (by omega) (by omega) (by omega) rfl
  obtain ⟨id, text⟩ := e
  simp only at hi' hn
  simp [artLine, lineA, cutL_at _ hi', hn, mk_toList]
theorem lineA_size (l : List UInt8) : (lineA l).text.size ≤ l.length := by
  have := (cutL_len 32 l).2
  unfold lineA
  simpa [ByteArray.size] using this
noncomputable def statOf (t : List UInt8) : Option (List Art) := inv okStat statText t
/-- What StatuteText gives. -/
def statOut (s : List Art) : List UInt8 := if okStat s = true then statText s else []
theorem statOut_no {s : List Art} (h : okStat s = false) : statOut s = [] := by unfold statOut; rw [if_neg (by rw [h]; simp)]
theorem statOut_ok {s : List Art} (h : okStat s = true) : statOut s = statText s := by unfold statOut; rw [if_pos h]
theorem statOf_text {s : List Art} (h : okStat s = true) : statOf (statText s) = some s := inv_of (fun q hq e => by
  have h1 : q.map artLine = s.map artLine := by
    have := congrArg (splitC 10) e
    rw [stat_lines hq, stat_lines h] at this
    exact (List.append_inj' this rfl).1
  have h2 := congrArg (List.map lineA) h1
  rw [List.map_map, List.map_map] at h2
  have back : ∀ p : List Art, okStat p = true → p.map (lineA ∘ artLine) = p := fun p hp => by
    conv => rhs; rw [← List.map_id p]
    apply List.map_congr_left
    intro x hx
    exact lineA_of (okStat_mem hp hx)
  rw [back _ hq, back _ h] at h2
  exact h2.symm) h rfl
end Go.Proofs.YtmgdodgofpapgaaDoor
