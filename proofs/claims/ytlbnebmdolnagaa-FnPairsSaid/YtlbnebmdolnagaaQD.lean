/- The statute of a day, the program's, walked. A patch applied, the reference's, walked. The statute of a day, the reference's, walked. A patch drawn, with room behind it, walked: the reference's. Patches drawn that may be none, walked: the reference's. A base and acts that are being drawn: what is held. A base and acts drawn, walked: the reference's. Valid acts drawn, walked: the reference's. The days on which acts begin or end, before they are sorted: the program's; put to their place: the reference's. Sorted lists compacted; the sort and the compaction at int64, by the library's contracts. The days on which acts begin or end, walked: the program's. Statutes between turns: plain. The intervals of broken days, walked: the program's. Statutes compared, the broken and the changed days, walked: the program's. The changed days, walked: the program's. A number chosen by a byte, a number in a list, walked: the laws'. Edits that fit a statute, walked: the reference's. A statute and two patches drawn that fit it, walked: the reference's. What patches merge to, as plain laws. No program is walked here. What is too long for a law, walked; what a slice of bytes that came in is. FnMerged, walked. FnDays, walked. A number put to its place, and the turns, walked: the reference's. The turns, walked: the reference's. -/
import Derived.Test.YtlbnebmdolnagaaQC
import Derived.Maps.AppendAt
import Derived.Test.YtlbnebmdolnagaaShelfT
import Derived.OwnWalk
import Derived.Test.YtlbnebmdolnagaaQB
import Derived.ProofKit
import Derived.OpenShut
import Derived.Below
namespace Go.Proofs.Ytlbnebmdolnagaa
open Go.RowKit Go.Lib

theorem apply_step {R T : List Art} {P : List Edit} (hR : okStat R = true) (hP : okPatch P = true) (h : applyO R P = some T) : okStat T = true := (applyO_ok (GoodA.of hR) hP h).1
end Go.Proofs.Ytlbnebmdolnagaa

namespace Go.Proofs.Ytlbnebmdolnagaa
open Go.RowKit Go.Lib

def applyK (S : List Art) (P : List Edit) (n : Nat) : List Art :=
  (List.range n).filterMap (fun j : Nat => if (target S P ((j : Int) + 1)).toList = [] then none else some ⟨(j : Int) + 1, target S P ((j : Int) + 1)⟩)
theorem applyK_no {S : List Art} {P : List Edit} {n : Nat} (h : (target S P ((n : Int) + 1)).toList = []) : applyK S P (n + 1) = applyK S P n := by
  unfold applyK
  rw [List.range_succ, List.filterMap_append]
  simp [h]
theorem applyK_yes {S : List Art} {P : List Edit} {n : Nat} (h : (target S P ((n : Int) + 1)).toList ≠ []) : applyK S P (n + 1) = applyK S P n ++ [⟨(n : Int) + 1, target S P ((n : Int) + 1)⟩] := by
  unfold applyK
  rw [List.range_succ, List.filterMap_append]
  simp [h]
theorem applyK_len (S : List Art) (P : List Edit) (n : Nat) : (applyK S P n).length ≤ n := by
  unfold applyK
  exact Nat.le_trans (List.length_filterMap_le _ _) (by simp)
def fitAt (S : List Art) (P : List Edit) (i : Int) : Prop := (editOf P i).kind ≠ 0 → (findA S i).toList = (editOf P i).old.toList
theorem fitAt_bad {S : List Art} {P : List Edit} {i : Int} (h1 : (editOf P i).kind ≠ 0) (h2 : (findA S i).toList ≠ (editOf P i).old.toList) : applyO S P = none := by
  apply applyO_no
  rw [Bool.eq_false_iff]
  intro hf
  rcases editOf_cases P i with ⟨hm, hi⟩ | ⟨hn, _⟩
  · have := fits_iff.1 hf _ hm
    rw [hi] at this
    exact h2 (by rw [this])
  · rw [hn] at h1
    exact h1 rfl
theorem fit_all {S : List Art} {P : List Edit} (hP : okPatch P = true) (h : ∀ j : Nat, j < 99 → fitAt S P ((j : Int) + 1)) : fits S P = true := by
  obtain ⟨ha, hr, _⟩ := (okPatch_iff P).1 hP
  rw [fits_iff]
  intro e he
  obtain ⟨h1, h2, hk⟩ := okEdit_kinds (ha e he)
  have hee : editOf P e.id = e := editOf_mem hr he
  have := h (e.id - 1).toNat (by omega)
  have e1 : (((e.id - 1).toNat : Nat) : Int) + 1 = e.id := by omega
  rw [e1] at this
  have := this (by rw [hee]; omega)
  rw [hee] at this
  rw [← mk_toList (findA S e.id), this, mk_toList]

end Go.Proofs.Ytlbnebmdolnagaa

namespace Go.Proofs.Ytlbnebmdolnagaa
open Go.RowKit Go.Lib

end Go.Proofs.Ytlbnebmdolnagaa

namespace Go.Proofs.Ytlbnebmdolnagaa
open Go.RowKit Go.Lib

end Go.Proofs.Ytlbnebmdolnagaa

namespace Go.Proofs.Ytlbnebmdolnagaa
open Go.RowKit Go.Lib

theorem lit_str (p : List UInt8 → Prop) (w : World) (t : TypeId) (L : List (List UInt8)) (hL : ∀ l ∈ L, p l) (j : Nat) (hj : j < L.length) : ∃ l, p l ∧ (w.alloc (.cells (L.map (fun l => Value.string ⟨l.toArray⟩)).toArray t)).cell? ⟨w.heap.size, j, none⟩ = some (.string ⟨l.toArray⟩) := by
  refine ⟨L[j], hL _ (List.getElem_mem hj), ?_⟩
  have := (Row.new w (L.map (fun l => Value.string ⟨l.toArray⟩)).toArray t).cell j (.string ⟨L[j].toArray⟩) (by simp [List.getElem?_eq_getElem hj])
  exact this
theorem lit_int (w : World) (t : TypeId) (L : List Int) (j : Nat) (hj : j < L.length) : ∃ x : Int, (w.alloc (.cells (L.map (fun x => Value.int .i64 x)).toArray t)).cell? ⟨w.heap.size, j, none⟩ = some (.int .i64 x) := by
  refine ⟨L[j], ?_⟩
  have := (Row.new w (L.map (fun x => Value.int .i64 x)).toArray t).cell j (.int .i64 L[j]) (by simp [List.getElem?_eq_getElem hj])
  exact this
def AmongPost (B : Nat) (w : World) (b k : Nat) (e : Ending) (w' : World) : Prop :=
  ∃ x : Int, e = .returned (.int .i64 x) ∧ Src B w' b k ∧ Only b w w'
set_option maxHeartbeats 400000 in
theorem among_any (B b k g n c : Nat) (w : World) (h : Src B w b k) (hk : k ≤ 58000) (hn : 1 ≤ n) (hn' : n ≤ 60000) (hg : g < w.heap.size) (hgb : g ≠ b)
    (hc : ∀ j, j < n → ∃ x : Int, w.cell? ⟨g, j, none⟩ = some (.int .i64 x)) :
    Calls Try.prog 128 #[.pointer (some ⟨b, 0, none⟩), .slice (some ⟨g, 0, none⟩) n c] w (AmongPost B w b (k + 2)) := by
  have H := Lib.hid h
  have HC := Lib.hid hc
  clear h hc
  go_enter Try.func128, Try.ntmps128
  go_wp2_with (fail)
  refine (pick_pos B b k n w H.out (by omega) (by omega) (by omega)).mono ?_
  rintro e w1 ⟨x, hx, rfl, hs, ho⟩
  have Hs := Lib.hid hs
  have hx' : x < n := by omega
  obtain ⟨l, hl⟩ := HC.out x hx'
  have x0 : w1.cell? ⟨g, x, none⟩ = some (.int .i64 l) := (only_cells ho g x hg hgb).1.trans hl
  have HO := Lib.hid ho
  clear hs hl ho
  go_wp2
  go_ret
  exact ⟨l, rfl, Hs.out, HO.out⟩

def LooseDraw (B : Nat) (w : World) (b k : Nat) (e : Ending) (w' : World) : Prop :=
  ∃ v P, e = .returned v ∧ OwnL editCells P w.heap.size w' v ∧ SizesOk P ∧ Src B w' b k ∧ Only b w w'
theorem size_lit {l : List UInt8} (h : l.length ≤ 24) : (⟨l.toArray⟩ : ByteArray).size ≤ maxLen := by
  have : (⟨l.toArray⟩ : ByteArray).size = l.length := by simp [ByteArray.size]
  unfold maxLen
  omega
end Go.Proofs.Ytlbnebmdolnagaa

namespace Go.Proofs.Ytlbnebmdolnagaa
open Go.RowKit Go.Lib

theorem OwnL.apart {α : Type} {f : α → List Value} {xs : List α} {base b : Nat} {w w' : World} {v : Value} (h : OwnL f xs base w v) (ho : Only b w w') (hne : xs ≠ [] → v.ownBlock ≠ some b) : OwnL f xs base w' v := by
  obtain ⟨A, c, rfl, h1, h2, h3⟩ := h
  refine ⟨A, c, rfl, h1, h2, fun h0 => ?_⟩
  obtain ⟨g, rfl, hg, hlt, hr⟩ := h3 h0
  exact ⟨g, rfl, hg, Nat.lt_of_lt_of_le hlt ho.size, hr.only hlt (fun e => hne h0 (by rw [← e]; rfl)) ho⟩
theorem OwnL.blk {α : Type} {f : α → List Value} {xs : List α} {base : Nat} {w : World} {v : Value} (h : OwnL f xs base w v) (h0 : xs ≠ []) : ∃ g, v.ownBlock = some g ∧ base ≤ g ∧ g < w.heap.size := by
  obtain ⟨A, c, rfl, h1, h2, h3⟩ := h
  obtain ⟨g, rfl, hg, hlt, _⟩ := h3 h0
  exact ⟨g, rfl, hg, hlt⟩
theorem own_cell {w : World} {base g n cap size : Nat} {e : TypeId} {xs : List Value} (h : w.ownsRow base e size (.slice (some ⟨g, 0, none⟩) n cap) n xs) {j : Nat} {u : Value} (hj : xs[j]? = some u) : w.cell? ⟨g, j, none⟩ = some u ∧ w.frozen? ⟨g, j, none⟩ = false := by
  obtain ⟨T, hB, _⟩ := blk_of_own h
  have hlt := (List.getElem?_eq_some_iff.1 hj).1
  refine ⟨?_, hB.free (by rw [List.length_append]; omega)⟩
  rw [hB.cell, List.getElem?_append_left hlt, hj]
theorem own_store {w : World} {base g n cap size : Nat} {e : TypeId} {xs : List Value} (h : w.ownsRow base e size (.slice (some ⟨g, 0, none⟩) n cap) n xs) (j : Nat) (hj : j < xs.length) (u : Value) (hu : u.oneCell' = true) :
    (w.setCell ⟨g, j, none⟩ u).ownsRow base e size (.slice (some ⟨g, 0, none⟩) n cap) n (xs.set j u) := by
  obtain ⟨T, hB, hC, hnc, hcm, hbg, hxl⟩ := blk_of_own h
  have hs := hB.set Try.prog j [u] (by rw [List.length_append, List.length_singleton]; omega) (fun v hv => by rw [List.mem_singleton] at hv; subst hv; exact hu)
  have e1 : splice (xs ++ T) j [u] = xs.set j u ++ T := by
    unfold splice
    rw [List.take_append_of_le_length (by omega), List.length_singleton, List.drop_append_of_le_length (by omega), List.set_eq_take_append_cons_drop, if_pos hj]
    simp
  rw [e1] at hs
  have hl2 : (xs.set j u).length = n * size := by rw [List.length_set]; exact hxl
  exact own_of_blk hs (by rw [List.length_append, hl2, ← hxl, ← List.length_append]; exact hC) (by rw [List.take_left' hl2]) hl2 hnc hcm hbg
theorem v_set0 : ∀ (L : List VAct) (i : Nat) (y : VAct) (n : Int), L[i]? = some y → (L.flatMap vCells).set (i * 3) (.int .i64 n) = (L.set i ⟨⟨n, y.a.fin, y.a.pat⟩, y.v⟩).flatMap vCells
  | [], _, _, _, h => by simp at h
  | x :: L, 0, y, n, h => by
    rw [List.getElem?_cons_zero] at h
    injection h with h
    subst h
    rfl
  | x :: L, i + 1, y, n, h => by
    rw [List.getElem?_cons_succ] at h
    have := v_set0 L i y n h
    rw [List.set_cons_succ, List.flatMap_cons, List.flatMap_cons, ← this, show (i + 1) * 3 = i * 3 + 1 + 1 + 1 by omega]
    rfl
theorem v_set1 : ∀ (L : List VAct) (i : Nat) (y : VAct) (n : Int), L[i]? = some y → (L.flatMap vCells).set (i * 3 + 1) (.int .i64 n) = (L.set i ⟨⟨y.a.beg, n, y.a.pat⟩, y.v⟩).flatMap vCells
  | [], _, _, _, h => by simp at h
  | x :: L, 0, y, n, h => by
    rw [List.getElem?_cons_zero] at h
    injection h with h
    subst h
    rfl
  | x :: L, i + 1, y, n, h => by
    rw [List.getElem?_cons_succ] at h
    have := v_set1 L i y n h
    rw [List.set_cons_succ, List.flatMap_cons, List.flatMap_cons, ← this, show (i + 1) * 3 + 1 = i * 3 + 1 + 1 + 1 + 1 by omega]
    rfl
theorem v_set2 : ∀ (L : List VAct) (i : Nat) (y : VAct) (v : Value) (P : List Edit), L[i]? = some y → (L.flatMap vCells).set (i * 3 + 2) v = (L.set i ⟨⟨y.a.beg, y.a.fin, P⟩, v⟩).flatMap vCells
  | [], _, _, _, _, h => by simp at h
  | x :: L, 0, y, v, P, h => by
    rw [List.getElem?_cons_zero] at h
    injection h with h
    subst h
    rfl
  | x :: L, i + 1, y, v, P, h => by
    rw [List.getElem?_cons_succ] at h
    have := v_set2 L i y v P h
    rw [List.set_cons_succ, List.flatMap_cons, List.flatMap_cons, ← this, show (i + 1) * 3 + 2 = i * 3 + 2 + 1 + 1 + 1 by omega]
    rfl
theorem mem_set {α : Type} {L : List α} {i : Nat} {y x : α} (h : x ∈ L.set i y) : x = y ∨ x ∈ L := (List.mem_or_eq_of_mem_set h).symm
end Go.Proofs.Ytlbnebmdolnagaa

namespace Go.Proofs.Ytlbnebmdolnagaa
open Go.RowKit Go.Lib

theorem vact_one {x : VAct} {A : Option Addr} {n c : Nat} (hv : x.v = .slice A n c) {u : Value} (h : u ∈ vCells x) : u.oneCell' = true := by
  unfold vCells at h
  rcases List.mem_cons.1 h with rfl | h
  · rfl
  · rcases List.mem_cons.1 h with rfl | h
    · rfl
    · rw [List.mem_singleton] at h
      subst h
      rw [hv]
      rfl
def lenV : Value → Nat
  | .slice _ n _ => n
  | _ => 0
def ActsDraw (b : Nat) (w : World) (e : Ending) (w' : World) : Prop :=
  ∃ v1 v2 S ls, e = .returned (.tuple #[v1, v2]) ∧ OwnL artCells S w.heap.size w' v1 ∧ okStat S = true ∧ Acts w' w'.heap.size v2 ls ∧ ActsSz ls ∧ Only b w w'

end Go.Proofs.Ytlbnebmdolnagaa

namespace Go.Proofs.Ytlbnebmdolnagaa
open Go.RowKit Go.Lib

theorem stat_a : okStat [⟨1, ⟨#[97]⟩⟩] = true := by
  rw [okStat_iff]
  refine ⟨fun a ha => ?_, by simp [RiseA], by simp⟩
  rw [List.mem_singleton.1 ha]
  unfold okArt
  rw [ByteArray.toList_eq]
  rfl
def ActsPost (w : World) (e : Ending) (w' : World) : Prop :=
  ∃ v1 v2 S ls, e = .returned (.tuple #[v1, v2]) ∧ OwnL artCells S w.heap.size w' v1 ∧ okStat S = true ∧ Acts w' w'.heap.size v2 ls ∧ okActs ls = true ∧ Below w.heap.size w w'
end Go.Proofs.Ytlbnebmdolnagaa

namespace Go.Proofs.Ytlbnebmdolnagaa
open Go.RowKit Go.Lib

def inD (d : Int) : Bool := inB d 0 999
def turnsK (ls : List Acta) (k : Nat) : List Int := 0 :: (ls.take k).flatMap (fun a => [a.beg, a.fin].filter inD)
theorem turnsK_succ {ls : List Acta} {k : Nat} (h : k < ls.length) : turnsK ls (k + 1) = turnsK ls k ++ [ls[k].beg, ls[k].fin].filter inD := by
  unfold turnsK
  rw [List.take_succ_eq_append_getElem h, List.flatMap_append]
  simp
theorem turnsK_len (ls : List Acta) (k : Nat) : (turnsK ls k).length ≤ 1 + 2 * k := by
  induction k with
  | zero => simp [turnsK]
  | succ k ih =>
    by_cases h : k < ls.length
    · rw [turnsK_succ h, List.length_append]
      have := List.length_filter_le inD [ls[k].beg, ls[k].fin]
      simp at this
      omega
    · have e1 : ls.take (k + 1) = ls := List.take_of_length_le (by omega)
      have e2 : ls.take k = ls := List.take_of_length_le (by omega)
      unfold turnsK at *
      rw [e1]
      rw [e2] at ih
      omega
/-- The days on which acts begin or end, and the day 0. -/
def Turn (ls : List Acta) (d : Int) : Prop := d = 0 ∨ (0 ≤ d ∧ d ≤ 999 ∧ ∃ a ∈ ls, d = a.beg ∨ d = a.fin)
theorem turnsK_mem {ls : List Acta} {d : Int} : d ∈ turnsK ls ls.length ↔ Turn ls d := by
  unfold turnsK Turn
  rw [List.take_length, List.mem_cons, List.mem_flatMap]
  refine or_congr Iff.rfl ⟨?_, ?_⟩
  · rintro ⟨a, ha, hd⟩
    obtain ⟨h1, h2⟩ := List.mem_filter.1 hd
    unfold inD at h2
    rw [inB_iff] at h2
    exact ⟨h2.1, h2.2, a, ha, by simpa using h1⟩
  · rintro ⟨h1, h2, a, ha, hd⟩
    exact ⟨a, ha, List.mem_filter.2 ⟨by simpa using hd, by unfold inD; rw [inB_iff]; exact ⟨h1, h2⟩⟩⟩

def PutPost (L : List Int) (n : Int) (w : World) (e : Ending) (w' : World) : Prop :=
  ∃ v M, e = .returned v ∧ OwnL intCells M w.heap.size w' v ∧ (∀ x, x ∈ M ↔ x = n ∨ x ∈ L) ∧ M.length ≤ L.length + 1 ∧ Below w.heap.size w w'
/-- A list on its way: k are through, n is in it or not yet. -/
structure Putting (L : List Int) (n : Int) (k : Nat) (d : Bool) (M : List Int) : Prop where
  mem : ∀ x, x ∈ M ↔ (d = true ∧ x = n) ∨ x ∈ L.take k
  len : M.length ≤ k + (if d then 1 else 0)
theorem take_mem {L : List Int} {k : Nat} (hk : k < L.length) (x : Int) : x ∈ L.take (k + 1) ↔ x ∈ L.take k ∨ x = L[k] := by
  rw [List.take_succ_eq_append_getElem hk, List.mem_append, List.mem_singleton]
theorem Putting.start (L : List Int) (n : Int) : Putting L n 0 false [] := ⟨by simp, by simp⟩
theorem Putting.keep {L M : List Int} {n : Int} {k : Nat} {d : Bool} (h : Putting L n k d M) (hk : k < L.length) : Putting L n (k + 1) d (M ++ [L[k]]) := ⟨fun x => by
  rw [take_mem hk, List.mem_append, List.mem_singleton, h.mem x, or_assoc], by rw [List.length_append, List.length_singleton]; have := h.len; omega⟩
theorem Putting.hit {L M : List Int} {n : Int} {k : Nat} (h : Putting L n k false M) (hk : k < L.length) (e : L[k] = n) : Putting L n (k + 1) true (M ++ [L[k]]) := ⟨fun x => by
  rw [take_mem hk, List.mem_append, List.mem_singleton, h.mem x, e]
  by_cases h1 : x = n <;> by_cases h2 : x ∈ L.take k <;> simp only [h1, h2, or_true, or_false, false_or, and_true, and_false, reduceCtorEq], by rw [List.length_append, List.length_singleton]; have := h.len; simp at this ⊢; omega⟩
theorem Putting.add {L M : List Int} {n : Int} {k : Nat} (h : Putting L n k false M) (hk : k < L.length) : Putting L n (k + 1) true ((M ++ [n]) ++ [L[k]]) := ⟨fun x => by
  rw [take_mem hk, List.mem_append, List.mem_append, List.mem_singleton, List.mem_singleton, h.mem x]
  generalize L[k] = y
  by_cases h1 : x = n <;> by_cases h2 : x ∈ L.take k <;> by_cases h3 : x = y <;> simp only [h1, h2, h3, true_and, false_and, or_true, true_or, or_false, false_or, and_true, and_false, reduceCtorEq], by simp; have := h.len; simp at this; omega⟩
theorem Putting.done {L M : List Int} {n : Int} (h : Putting L n L.length true M) : (∀ x, x ∈ M ↔ x = n ∨ x ∈ L) ∧ M.length ≤ L.length + 1 := ⟨fun x => by
  rw [h.mem x, List.take_length]
  simp, by have := h.len; simp at this; omega⟩
theorem Putting.last {L M : List Int} {n : Int} (h : Putting L n L.length false M) : (∀ x, x ∈ M ++ [n] ↔ x = n ∨ x ∈ L) ∧ (M ++ [n]).length ≤ L.length + 1 := ⟨fun x => by
  rw [List.mem_append, h.mem x, List.take_length]
  simp
  exact or_comm, by simp; have := h.len; simp at this; omega⟩
end Go.Proofs.Ytlbnebmdolnagaa

namespace Go.Proofs.Ytlbnebmdolnagaa
open Go.RowKit Go.Lib

theorem compact_up (zs : List Int) (hs : zs.Pairwise (· ≤ ·)) : ∀ m, m ≤ zs.length → (compactUpTo zs.toArray m).Pairwise (· < ·) ∧ ∀ x, x ∈ compactUpTo zs.toArray m ↔ x ∈ zs.take m := by
  intro m
  induction m with
  | zero => intro _; exact ⟨by simp [compactUpTo], by simp [compactUpTo]⟩
  | succ m ih =>
    intro hm
    obtain ⟨h1, h2⟩ := ih (by omega)
    have hlt : m < zs.length := by omega
    have hd : zs.toArray[m]! = zs[m] := by simp [hlt]
    have ht : ∀ x, x ∈ zs.take (m + 1) ↔ x ∈ zs.take m ∨ x = zs[m] := take_mem hlt
    have hle : ∀ x ∈ zs.take m, x ≤ zs[m] := fun x hx => by
      obtain ⟨j, hj, rfl⟩ := List.mem_iff_getElem.1 hx
      rw [List.length_take] at hj
      rw [List.getElem_take]
      exact (List.pairwise_iff_getElem.1 hs) j m (by omega) hlt (by omega)
    rw [compactUpTo_succ, hd]
    by_cases hk : keeps zs.toArray m = true
    · rw [if_pos hk]
      refine ⟨?_, fun x => by rw [List.mem_append, List.mem_singleton, h2, ht]⟩
      rw [List.pairwise_append]
      refine ⟨h1, by simp, fun x hx y hy => ?_⟩
      rw [List.mem_singleton.1 hy]
      have hx' := (h2 x).1 hx
      have h3 := hle x hx'
      rcases Nat.eq_zero_or_pos m with h0 | h0
      · subst h0; simp at hx'
      · have hp : zs.toArray[m - 1]! = zs[m - 1] := by simp [show m - 1 < zs.length by omega]
        have hne : zs[m] ≠ zs[m - 1] := by
          have := hk
          unfold keeps at this
          rw [hd, hp] at this
          simp at this
          omega
        have h4 := (List.pairwise_iff_getElem.1 hs) (m - 1) m (by omega) hlt (by omega)
        obtain ⟨j, hj, rfl⟩ := List.mem_iff_getElem.1 hx'
        rw [List.length_take] at hj
        rw [List.getElem_take]
        by_cases e : j = m - 1
        · subst e; omega
        · have h5 := (List.pairwise_iff_getElem.1 hs) j (m - 1) (by omega) (by omega) (by omega)
          omega
    · rw [if_neg hk, List.append_nil]
      refine ⟨h1, fun x => ?_⟩
      rw [h2, ht]
      constructor
      · exact .inl
      · rintro (h | rfl)
        · exact h
        · rcases Nat.eq_zero_or_pos m with h0 | h0
          · subst h0
            exfalso
            apply hk
            unfold keeps
            simp
          · have hp : zs.toArray[m - 1]! = zs[m - 1] := by simp [show m - 1 < zs.length by omega]
            have he : zs[m] = zs[m - 1] := by
              unfold keeps at hk
              rw [hd, hp] at hk
              simp at hk
              exact hk.2
            rw [he]
            exact List.mem_iff_getElem.2 ⟨m - 1, by rw [List.length_take]; omega, by rw [List.getElem_take]⟩
/-- The days in order, each once. -/
def turnsL (ls : List Acta) : List Int := compact ((turnsK ls ls.length).mergeSort (fun x y => decide (x ≤ y)))
theorem turnsL_facts (ls : List Acta) : (turnsL ls).Pairwise (· < ·) ∧ ∀ x, x ∈ turnsL ls ↔ Turn ls x := by
  have hs : ((turnsK ls ls.length).mergeSort (fun x y => decide (x ≤ y))).Pairwise (· ≤ ·) := by
    have := List.pairwise_mergeSort (le := fun x y : Int => decide (x ≤ y)) (fun a b c h1 h2 => by simp at *; omega) (fun a b => by simp; omega) (turnsK ls ls.length)
    exact this.imp (fun h => by simpa using h)
  obtain ⟨h1, h2⟩ := compact_up _ hs _ (Nat.le_refl _)
  refine ⟨h1, fun x => ?_⟩
  unfold turnsL compact
  rw [h2, List.take_length, (List.mergeSort_perm _ _).mem_iff, turnsK_mem]

theorem sort64_any (zs : List Int) (blk cap : Nat) (w : World) (hH : Go.Sort.Holds (Value.int .i64) w blk 0 zs.toArray) (hblk : blk < w.heap.size) (hsz : zs.length < 4611686018427387904) :
    Calls Try.prog 81 #[.slice (some ⟨blk, 0, none⟩) zs.length cap] w fun e w' =>
      e = .returned (.tuple #[]) ∧ ∃ n os, w' = Go.Sort.grow (Go.Sort.putRow (Value.int .i64) (Go.Sort.ahead w n) blk 0 (zs.mergeSort fun x y => decide (x ≤ y)).toArray) os :=
  calls_of_every_depth fun D => AnySM.slices_Sort_int_in Try.sort64 D blk 0 cap zs w hH hblk hsz
end Go.Proofs.Ytlbnebmdolnagaa

namespace Go.Proofs.Ytlbnebmdolnagaa
open Go.RowKit Go.Lib

theorem int_flat : ∀ L : List Int, L.flatMap intCells = L.map (fun x => Value.int .i64 x)
  | [] => rfl
  | x :: L => by rw [List.flatMap_cons, List.map_cons, int_flat L]; rfl
theorem holds_own {w : World} {base g cap : Nat} {L : List Int} (h : w.ownsRow base 2 1 (.slice (some ⟨g, 0, none⟩) L.length cap) L.length (L.flatMap intCells)) : Go.Sort.Holds (Value.int .i64) w g 0 L.toArray := by
  intro j hj
  have hj' : j < L.length := by simpa using hj
  have := own_cell h (j := j) (u := .int .i64 L[j]) (by rw [int_flat, List.getElem?_map, List.getElem?_eq_getElem hj']; rfl)
  have e : L.toArray[j]! = L[j] := by simp [hj']
  rw [Nat.zero_add, e]
  exact this
theorem only_sorted {w : World} {g : Nat} (L : List Int) (n : Nat) : Only g w (Go.Sort.putRow (Value.int .i64) (Go.Sort.ahead w n) g 0 L.toArray) := by
  refine ⟨rfl, rfl, rfl, Nat.le_of_eq (by rw [Go.Sort.size_putRow]; rfl), fun i hi hne => ?_⟩
  unfold Go.Sort.putRow Go.Sort.mapBlock
  have hgi : g ≠ i := fun e => hne (by rw [e])
  show (w.heap.modify g _)[i]? = _
  rw [Array.getElem?_modify, if_neg hgi]
theorem only_grow {w w' : World} {g : Nat} (h : Only g w w') (os : Array Obj) : Only g w (Go.Sort.grow w' os) :=
  ⟨h.os, h.tape, h.output, by rw [Go.Sort.size_grow]; have := h.size; omega, fun i hi hne => (Go.Sort.heap_grow_old w' os (Nat.lt_of_lt_of_le hi h.size)).trans (h.block i hi hne)⟩
theorem holds_row {w : World} {g : Nat} {L T : List Int} (h : Go.Sort.Holds (Value.int .i64) w g 0 (L ++ T).toArray) : Row w g (L.flatMap intCells) := by
  have hl : (L.flatMap intCells).length = L.length := by rw [int_flat, List.length_map]
  refine ⟨fun j u hj => ?_, fun j hj => ?_⟩
  · rw [int_flat, List.getElem?_map] at hj
    cases hx : L[j]? with
    | none => rw [hx] at hj; cases hj
    | some x =>
      rw [hx] at hj
      injection hj with hj
      subst hj
      obtain ⟨hlt, hxe⟩ := List.getElem?_eq_some_iff.1 hx
      have := (h j (by simp; omega)).1
      rw [Nat.zero_add] at this
      rw [this]
      simp [List.getElem?_append_left hlt, hlt, hxe]
  · have := (h j (by simp; omega)).2
    rwa [Nat.zero_add] at this

end Go.Proofs.Ytlbnebmdolnagaa

namespace Go.Proofs.Ytlbnebmdolnagaa
open Go.RowKit Go.Lib

theorem force_congr {ls : List Acta} {d d' : Int} (h : ∀ a ∈ ls, inF d a = inF d' a) : forceI ls d = forceI ls d' := by
  unfold forceI
  congr 1
  apply List.filter_congr
  intro k hk
  have hk := List.mem_range.1 hk
  rw [List.getElem?_eq_getElem hk]
  exact h _ (List.getElem_mem hk)
theorem on_congr {S : List Art} {ls : List Acta} {d d' : Int} (h : ∀ a ∈ ls, inF d a = inF d' a) : onO S ls d = onO S ls d' := by
  unfold onO
  rw [force_congr h]
/-- No act begins or ends behind t and not behind d. -/
theorem on_still {S : List Art} {ls : List Acta} {t d : Int} (hok : okActs ls = true) (ht : 0 ≤ t) (htd : t ≤ d) (hd : d ≤ 999) (h : ∀ x, Turn ls x → x ≤ t ∨ d < x) : onO S ls d = onO S ls t := by
  apply on_congr
  intro a ha
  obtain ⟨k, hk⟩ := List.getElem?_of_mem ha
  have ho := okActa_iff.1 (okActs_at hok hk)
  have o1 := ho.b0; have o2 := ho.b1; have o3 := ho.f0; have o4 := ho.f1
  have hb : a.beg ≤ d → a.beg ≤ t := fun hb => by
    rcases h a.beg (.inr ⟨o1, by omega, a, ha, .inl rfl⟩) with h | h <;> omega
  have hf : a.fin ≤ d → a.fin ≤ t := fun hb => by
    rcases h a.fin (.inr ⟨o3, by omega, a, ha, .inr rfl⟩) with h | h <;> omega
  unfold inF
  have e1 : decide (a.beg ≤ d) = decide (a.beg ≤ t) := by rw [decide_eq_decide]; exact ⟨hb, fun h => by omega⟩
  have e2 : decide (d < a.fin) = decide (t < a.fin) := by rw [decide_eq_decide]; exact ⟨fun h => by omega, fun h => by have := hf; omega⟩
  rw [e1, e2]
/-- The turn at a place, and the last day of its interval. -/
def lastAt (T : List Int) (i : Nat) : Int := if i + 1 < T.length then (T[i + 1]?.getD 0) - 1 else 999
theorem turn_bound {ls : List Acta} {x : Int} (h : Turn ls x) : 0 ≤ x ∧ x ≤ 999 := by
  rcases h with rfl | ⟨h1, h2, _⟩ <;> omega
theorem turns_first (ls : List Acta) : (turnsL ls)[0]? = some 0 := by
  obtain ⟨h1, h2⟩ := turnsL_facts ls
  have h0 : (0 : Int) ∈ turnsL ls := (h2 0).2 (.inl rfl)
  obtain ⟨j, hj, hz⟩ := List.mem_iff_getElem.1 h0
  rcases Nat.eq_zero_or_pos j with e | e
  · subst e
    rw [List.getElem?_eq_getElem hj, hz]
  · exfalso
    have := (List.pairwise_iff_getElem.1 h1) 0 j (by omega) hj e
    have h3 := (turn_bound ((h2 _).1 (List.getElem_mem (by omega : 0 < (turnsL ls).length)))).1
    omega
theorem turns_gap {ls : List Acta} {i : Nat} (hi : i < (turnsL ls).length) : (turnsL ls)[i] ≤ lastAt (turnsL ls) i ∧ lastAt (turnsL ls) i ≤ 999 ∧ 0 ≤ (turnsL ls)[i] ∧ ∀ x, Turn ls x → x ≤ (turnsL ls)[i] ∨ lastAt (turnsL ls) i < x := by
  obtain ⟨h1, h2⟩ := turnsL_facts ls
  have hb := turn_bound ((h2 _).1 (List.getElem_mem hi))
  unfold lastAt
  by_cases hn : i + 1 < (turnsL ls).length
  · rw [if_pos hn, List.getElem?_eq_getElem hn, Option.getD_some]
    have hlt := (List.pairwise_iff_getElem.1 h1) i (i + 1) hi hn (by omega)
    have hb2 := turn_bound ((h2 _).1 (List.getElem_mem hn))
    refine ⟨by omega, by omega, hb.1, fun x hx => ?_⟩
    obtain ⟨j, hj, rfl⟩ := List.mem_iff_getElem.1 ((h2 x).2 hx)
    by_cases hji : j ≤ i
    · by_cases e : j = i
      · subst e; left; omega
      · have := (List.pairwise_iff_getElem.1 h1) j i hj hi (by omega)
        left; omega
    · by_cases e : j = i + 1
      · subst e; right; omega
      · have := (List.pairwise_iff_getElem.1 h1) (i + 1) j hn hj (by omega)
        right; omega
  · rw [if_neg hn]
    refine ⟨hb.2, by omega, hb.1, fun x hx => ?_⟩
    obtain ⟨j, hj, rfl⟩ := List.mem_iff_getElem.1 ((h2 x).2 hx)
    by_cases e : j = i
    · subst e; left; omega
    · have := (List.pairwise_iff_getElem.1 h1) j i hj hi (by omega)
      left; omega
/-- The bound to which the intervals are known. -/
def boundAt (T : List Int) (i : Nat) : Int := if i < T.length then T[i]?.getD 0 else 1000
theorem bound_last {T : List Int} {i : Nat} : boundAt T (i + 1) = lastAt T i + 1 := by
  unfold boundAt lastAt
  split <;> omega
structure Cover (S : List Art) (ls : List Acta) (i : Nat) (R : List (Int × Int)) : Prop where
  ok : ∀ r ∈ R, 0 ≤ r.1 ∧ r.1 ≤ r.2 ∧ r.2 < boundAt (turnsL ls) i
  all : ∀ d, 0 ≤ d → d < boundAt (turnsL ls) i → ((∃ r ∈ R, r.1 ≤ d ∧ d ≤ r.2) ↔ onO S ls d = none)
theorem Cover.start (S : List Art) (ls : List Acta) : Cover S ls 0 [] := by
  refine ⟨(fun r hr => by cases hr), fun d h0 h1 => ?_⟩
  exfalso
  have h := turns_first ls
  have hl := (List.getElem?_eq_some_iff.1 h).1
  unfold boundAt at h1
  rw [if_pos hl, h] at h1
  simp at h1
  omega
theorem Cover.skip {S : List Art} {ls : List Acta} {i : Nat} {R : List (Int × Int)} (h : Cover S ls i R) (hok : okActs ls = true) (hi : i < (turnsL ls).length) (ho : (onO S ls (turnsL ls)[i]).isSome = true) : Cover S ls (i + 1) R := by
  obtain ⟨g1, g2, g3, g4⟩ := turns_gap hi
  have hb : boundAt (turnsL ls) i = (turnsL ls)[i] := by unfold boundAt; rw [if_pos hi, List.getElem?_eq_getElem hi]; rfl
  refine ⟨fun r hr => ?_, fun d h0 h1 => ?_⟩
  · have := h.ok r hr
    rw [bound_last]
    rw [hb] at this
    omega
  · rw [bound_last] at h1
    by_cases hd : d < (turnsL ls)[i]
    · exact h.all d h0 (by rw [hb]; exact hd)
    · rw [on_still (S := S) hok g3 (by omega) (by omega) (fun x hx => by rcases g4 x hx with h | h <;> omega)]
      constructor
      · rintro ⟨r, hr, h3, h4⟩
        have := h.ok r hr
        rw [hb] at this
        omega
      · intro e
        rw [e] at ho
        cases ho
theorem Cover.add {S : List Art} {ls : List Acta} {i : Nat} {R : List (Int × Int)} (h : Cover S ls i R) (hok : okActs ls = true) (hi : i < (turnsL ls).length) (ho : (onO S ls (turnsL ls)[i]).isSome = false) : Cover S ls (i + 1) (R ++ [((turnsL ls)[i], lastAt (turnsL ls) i)]) := by
  obtain ⟨g1, g2, g3, g4⟩ := turns_gap hi
  have hb : boundAt (turnsL ls) i = (turnsL ls)[i] := by unfold boundAt; rw [if_pos hi, List.getElem?_eq_getElem hi]; rfl
  refine ⟨fun r hr => ?_, fun d h0 h1 => ?_⟩
  · rw [bound_last]
    rcases List.mem_append.1 hr with hr | hr
    · have := h.ok r hr
      rw [hb] at this
      omega
    · rw [List.mem_singleton.1 hr]
      exact ⟨g3, g1, by omega⟩
  · rw [bound_last] at h1
    by_cases hd : d < (turnsL ls)[i]
    · rw [← h.all d h0 (by rw [hb]; exact hd)]
      constructor
      · rintro ⟨r, hr, h3, h4⟩
        rcases List.mem_append.1 hr with hr | hr
        · exact ⟨r, hr, h3, h4⟩
        · rw [List.mem_singleton.1 hr] at h3
          have h3 : (turnsL ls)[i] ≤ d := h3
          omega
      · rintro ⟨r, hr, h3⟩
        exact ⟨r, List.mem_append_left _ hr, h3⟩
    · rw [on_still (S := S) hok g3 (by omega) (by omega) (fun x hx => by rcases g4 x hx with h | h <;> omega)]
      constructor
      · intro _
        cases e : onO S ls (turnsL ls)[i] with
        | none => rfl
        | some x => rw [e] at ho; cases ho
      · intro _
        exact ⟨_, List.mem_append_right _ (List.mem_singleton.2 rfl), by show (turnsL ls)[i] ≤ d; omega, by show d ≤ lastAt (turnsL ls) i; omega⟩
/-- Two intervals that touch are one. -/
theorem Cover.join {S : List Art} {ls : List Acta} {i : Nat} {R : List (Int × Int)} {x y z : Int} (h : Cover S ls i (R ++ [(x, y)] ++ [(y + 1, z)])) : Cover S ls i (R ++ [(x, z)]) := by
  have hx := h.ok (x, y) (by simp)
  have hy := h.ok (y + 1, z) (by simp)
  simp only at hx hy
  refine ⟨fun r hr => ?_, fun d h0 h1 => ?_⟩
  · rcases List.mem_append.1 hr with hr | hr
    · exact h.ok r (by simp [hr])
    · rw [List.mem_singleton.1 hr]
      exact ⟨hx.1, by show x ≤ z; omega, hy.2.2⟩
  · rw [← h.all d h0 h1]
    constructor
    · rintro ⟨r, hr, h3, h4⟩
      rcases List.mem_append.1 hr with hr | hr
      · exact ⟨r, by simp [hr], h3, h4⟩
      · rw [List.mem_singleton.1 hr] at h3 h4
        have h3 : x ≤ d := h3
        have h4 : d ≤ z := h4
        by_cases hd : d ≤ y
        · exact ⟨(x, y), by simp, h3, hd⟩
        · exact ⟨(y + 1, z), by simp, by show y + 1 ≤ d; omega, h4⟩
    · rintro ⟨r, hr, h3, h4⟩
      rw [List.append_assoc, List.mem_append] at hr
      rcases hr with hr | hr
      · exact ⟨r, by simp [hr], h3, h4⟩
      · refine ⟨(x, z), by simp, ?_⟩
        simp at hr
        rcases hr with rfl | rfl
        · exact ⟨h3, by show d ≤ z; have h4 : d ≤ y := h4; omega⟩
        · exact ⟨by show x ≤ d; have h3 : y + 1 ≤ d := h3; omega, h4⟩
end Go.Proofs.Ytlbnebmdolnagaa

namespace Go.Proofs.Ytlbnebmdolnagaa
open Go.RowKit Go.Lib

structure BRow where
  lo : Int
  hi : Int
  h : Nat
def bCells (x : BRow) : List Value := [.slice (some ⟨x.h, 0, none⟩) 2 2]
def bPair (x : BRow) : Int × Int := (x.lo, x.hi)
structure Rows (base : Nat) (w : World) (g cap : Nat) (L : List BRow) : Prop where
  row : w.ownsRow base 25 1 (.slice (some ⟨g, 0, none⟩) L.length cap) L.length (L.flatMap bCells)
  each : ∀ x ∈ L, Row w x.h [.int .i64 x.lo, .int .i64 x.hi] ∧ base ≤ x.h ∧ x.h < w.heap.size ∧ x.h ≠ g
  ord : L.Pairwise (fun a b => a.h < b.h)
theorem Rows.below {base : Nat} {w w' : World} {g cap : Nat} {L : List BRow} (h : Rows base w g cap L) (hb : Below w.heap.size w w') : Rows base w' g cap L :=
  ⟨own_below h.row hb, fun x hx => by
    obtain ⟨h1, h2, h3, h4⟩ := h.each x hx
    exact ⟨h1.below hb h3, h2, Nat.lt_of_lt_of_le h3 hb.size, h4⟩, h.ord⟩
theorem Rows.push {base : Nat} {W w' : World} {g cap g' cap' : Nat} {L : List BRow} {x : BRow} (h : Rows base W g cap L) (hg : W.grownBy w' (some g)) (hor : g' = g ∨ g' = W.heap.size)
    (hrow : w'.ownsRow base 25 1 (.slice (some ⟨g', 0, none⟩) (L.length + 1) cap') (L.length + 1) (L.flatMap bCells ++ bCells x))
    (hx : Row W x.h [.int .i64 x.lo, .int .i64 x.hi]) (hxb : base ≤ x.h) (hxl : x.h < W.heap.size) (hxg : x.h ≠ g) (hnew : ∀ y ∈ L, y.h < x.h) : Rows base w' g' cap' (L ++ [x]) := by
  have hone : ∀ y : BRow, Row W y.h [.int .i64 y.lo, .int .i64 y.hi] → y.h < W.heap.size → y.h ≠ g → Row w' y.h [.int .i64 y.lo, .int .i64 y.hi] ∧ y.h < w'.heap.size ∧ y.h ≠ g' := fun y h1 h2 h3 =>
    ⟨h1.only h2 h3 hg, Nat.lt_of_lt_of_le h2 hg.size, by rcases hor with e | e <;> omega⟩
  refine ⟨by simpa using hrow, fun y hy => ?_, ?_⟩
  · rcases List.mem_append.1 hy with hy | hy
    · obtain ⟨h1, h2, h3, h4⟩ := h.each y hy
      obtain ⟨q1, q2, q3⟩ := hone y h1 h3 h4
      exact ⟨q1, h2, q2, q3⟩
    · rw [List.mem_singleton.1 hy]
      obtain ⟨q1, q2, q3⟩ := hone x hx hxl hxg
      exact ⟨q1, hxb, q2, q3⟩
  · rw [List.pairwise_append]
    exact ⟨h.ord, by simp, fun a ha b hb => by rw [List.mem_singleton.1 hb]; exact hnew a ha⟩
theorem Rows.turn {base : Nat} {w : World} {g cap : Nat} {L : List BRow} {x : BRow} (h : Rows base w g cap (L ++ [x])) (n : Int) : Rows base (w.setCell ⟨x.h, 1, none⟩ (.int .i64 n)) g cap (L ++ [⟨x.lo, n, x.h⟩]) := by
  obtain ⟨x1, x2, x3, x4⟩ := h.each x (by simp)
  have hO : Only x.h w (w.setCell ⟨x.h, 1, none⟩ (.int .i64 n)) := only_setCell (only_refl _ _) (.inl rfl) _
  have hr := h.row.kept hO (.inr (fun e => by injection e with e; exact x4 e.symm))
  refine ⟨by simpa [bCells] using hr, fun y hy => ?_, ?_⟩
  · rcases List.mem_append.1 hy with hy | hy
    · obtain ⟨h1, h2, h3, h4⟩ := h.each y (List.mem_append_left _ hy)
      have hlt := (List.pairwise_append.1 h.ord).2.2 y hy x (by simp)
      exact ⟨h1.only h3 (by omega) hO, h2, Nat.lt_of_lt_of_le h3 hO.size, h4⟩
    · rw [List.mem_singleton.1 hy]
      exact ⟨x1.set 1 _ (by simp), x2, Nat.lt_of_lt_of_le x3 hO.size, x4⟩
  · have := h.ord
    rw [List.pairwise_append] at this ⊢
    refine ⟨this.1, by simp, fun a ha b hb => ?_⟩
    rw [List.mem_singleton.1 hb]
    exact this.2.2 a ha x (by simp)
def BrokenPost (S : List Art) (ls : List Acta) (w : World) (e : Ending) (w' : World) : Prop :=
  ∃ g cap L, e = .returned (.slice (some ⟨g, 0, none⟩) L.length cap) ∧ Rows w.heap.size w' g cap L ∧ L.length ≤ 1000 ∧ Cover S ls (turnsL ls).length (L.map bPair) ∧ Below w.heap.size w w'
theorem bcell_one {x : BRow} {u : Value} (h : u ∈ bCells x) : u.oneCell' = true := by
  unfold bCells at h
  rw [List.mem_singleton] at h
  subst h
  rfl
theorem Try.infoRow : (Try.prog.info? 25).map (fun i => (i.zero, i.size, i.bytes)) = some (some (.slice none 0 0), 1, 24) := by kernel_rfl
theorem turnsL_len {ls : List Acta} (h : okActs ls = true) : (turnsL ls).length ≤ 17 := by
  have h8 := okActs_len h
  have h1 := turnsK_len ls ls.length
  have h2 : (turnsL ls).length ≤ ((turnsK ls ls.length).mergeSort (fun x y => decide (x ≤ y))).length := by
    unfold turnsL compact compactUpTo
    rw [List.length_map]
    exact Nat.le_trans (List.length_filter_le _ _) (by simp)
  rw [List.length_mergeSort] at h2
  omega

end Go.Proofs.Ytlbnebmdolnagaa

namespace Go.Proofs.Ytlbnebmdolnagaa
open Go.RowKit Go.Lib

theorem on_ok {S : List Art} {ls : List Acta} {d : Int} {w w' : World} {e : Ending} (h : OnPost S ls d w e w') : ∀ R, onO S ls d = some R → okStat R = true := by
  obtain ⟨v, _, h2, _⟩ := h
  exact fun R hr => (h2 R hr).2
def BrokenDaysPost (S : List Art) (ls : List Acta) (w : World) (e : Ending) (w' : World) : Prop :=
  ∃ g cap L, e = .returned (.tuple #[.slice (some ⟨g, 0, none⟩) L.length cap, .bool true]) ∧ Rows w.heap.size w' g cap L ∧ L.length ≤ 1000 ∧ Cover S ls (turnsL ls).length (L.map bPair) ∧ Below w.heap.size w w'
theorem Rows.less {base b : Nat} {w : World} {g cap : Nat} {L : List BRow} (h : Rows base w g cap L) (hb : b ≤ base) : Rows b w g cap L := by
  obtain ⟨T, hB, hC, hnc, hcm, hbg, hxl⟩ := blk_of_own h.row
  exact ⟨own_of_blk hB hC (by rw [List.take_left' hxl]) hxl hnc hcm (by omega), fun x hx => by
    obtain ⟨h1, h2, h3, h4⟩ := h.each x hx
    exact ⟨h1, by omega, h3, h4⟩, h.ord⟩
end Go.Proofs.Ytlbnebmdolnagaa

namespace Go.Proofs.Ytlbnebmdolnagaa
open Go.RowKit Go.Lib

def AllDays (S : List Art) (ls : List Acta) : Prop := ∀ d, 0 ≤ d → d ≤ 999 → onO S ls d ≠ none
theorem bound_end (T : List Int) : boundAt T T.length = 1000 := by unfold boundAt; rw [if_neg (Nat.lt_irrefl _)]
theorem Cover.none {S : List Art} {ls : List Acta} {R : List (Int × Int)} (h : Cover S ls (turnsL ls).length R) : R = [] ↔ AllDays S ls := by
  constructor
  · rintro rfl d h0 h1 e
    obtain ⟨r, hr, _⟩ := (h.all d h0 (by rw [bound_end]; omega)).2 e
    cases hr
  · intro hg
    cases R with
    | nil => rfl
    | cons r R =>
      exfalso
      have h1 := h.ok r List.mem_cons_self
      rw [bound_end] at h1
      exact hg r.1 h1.1 (by omega) ((h.all r.1 h1.1 (by rw [bound_end]; omega)).1 ⟨r, List.mem_cons_self, Int.le_refl _, h1.2.1⟩)
/-- The changed ones of the first k turns behind the first. -/
def Changed (S : List Art) (ls : List Acta) (k : Nat) (D : List Int) : Prop := D.length ≤ k ∧ ∀ d, d ∈ D ↔ d ∈ ((turnsL ls).drop 1).take k ∧ onO S ls (d - 1) ≠ onO S ls d
theorem Changed.start (S : List Art) (ls : List Acta) : Changed S ls 0 [] := ⟨Nat.le_refl _, fun d => by simp⟩
theorem Changed.no {S : List Art} {ls : List Acta} {k : Nat} {D : List Int} {x : Int} (h : Changed S ls k D) (hx : ((turnsL ls).drop 1)[k]? = some x) (e : onO S ls (x - 1) = onO S ls x) : Changed S ls (k + 1) D := by
  obtain ⟨h1, h2⟩ := List.getElem?_eq_some_iff.1 hx
  refine ⟨by have := h.1; omega, fun d => ?_⟩
  rw [take_mem h1, h2, h.2 d]
  constructor
  · rintro ⟨a, b⟩; exact ⟨.inl a, b⟩
  · rintro ⟨a | a, b⟩
    · exact ⟨a, b⟩
    · rw [a] at b; exact absurd e b
theorem Changed.yes {S : List Art} {ls : List Acta} {k : Nat} {D : List Int} {x : Int} (h : Changed S ls k D) (hx : ((turnsL ls).drop 1)[k]? = some x) (e : onO S ls (x - 1) ≠ onO S ls x) : Changed S ls (k + 1) (D ++ [x]) := by
  obtain ⟨h1, h2⟩ := List.getElem?_eq_some_iff.1 hx
  refine ⟨by have := h.1; simp; omega, fun d => ?_⟩
  rw [take_mem h1, h2, List.mem_append, List.mem_singleton, h.2 d]
  constructor
  · rintro (⟨a, b⟩ | a)
    · exact ⟨.inl a, b⟩
    · rw [a]; exact ⟨.inr rfl, e⟩
  · rintro ⟨a | a, b⟩
    · exact .inl ⟨a, b⟩
    · exact .inr a
def ChangePost (S : List Art) (ls : List Acta) (w : World) (e : Ending) (w' : World) : Prop :=
  ((¬ AllDays S ls ∧ e = .returned (.tuple #[.slice none 0 0, .bool false])) ∨
    (AllDays S ls ∧ ∃ v D, e = .returned (.tuple #[v, .bool true]) ∧ OwnL intCells D w.heap.size w' v ∧ Changed S ls ((turnsL ls).length - 1) D)) ∧ Below w.heap.size w w'
theorem tail_pos {ls : List Acta} {k : Nat} {x : Int} (hx : ((turnsL ls).drop 1)[k]? = some x) : 1 ≤ x ∧ x ≤ 999 := by
  rw [List.getElem?_drop] at hx
  obtain ⟨h1, h2⟩ := List.getElem?_eq_some_iff.1 hx
  obtain ⟨f1, f2⟩ := turnsL_facts ls
  have hb := turn_bound ((f2 _).1 (List.getElem_mem h1))
  have h0 := turns_first ls
  obtain ⟨g1, g2⟩ := List.getElem?_eq_some_iff.1 h0
  have := (List.pairwise_iff_getElem.1 f1) 0 (1 + k) g1 h1 (by omega)
  rw [g2] at this
  rw [← h2]
  omega

end Go.Proofs.Ytlbnebmdolnagaa

namespace Go.Proofs.Ytlbnebmdolnagaa
open Go.RowKit Go.Lib

def AtPost (m : Int) (w : World) (e : Ending) (w' : World) : Prop := ∃ x : Int, 0 ≤ x ∧ x < m ∧ e = .returned (.int .i64 x) ∧ ∃ k, w' = w.drewN k
set_option maxHeartbeats 1000000 in
theorem at_any (A : Option Addr) (n c i : Nat) (m : Int) (w : World) (h : BytesAt w w.heap.size A n) (hi : i ≤ 1000) (hm : 1 ≤ m) (hm2 : m ≤ 65536) :
    Calls Try.prog 53 #[.slice A n c, .int .i64 (i : Int), .int .i64 m] w (AtPost m w) := by
  by_cases h1 : m ≤ 1
  · go_enter Try.func53, Try.ntmps53
    go_wp2
    go_ret
    exact ⟨0, by omega, by omega, rfl, 0, rfl⟩
  · have h1' : ¬ m ≤ 1 := h1
    have h1 : 1 < m := by omega
    by_cases h2 : i < n
    · have h2' : (i : Int) < (n : Int) := by omega
      obtain ⟨b, off, rfl, hlt, hc⟩ := h.2 (by omega)
      obtain ⟨x, hx, x0⟩ := hc i h2
      have hn := h.1
      unfold maxLen at hn
      clear hc h
      go_enter Try.func53, Try.ntmps53
      go_wp2
      go_ret
      exact ⟨(x : Int) % m, Int.emod_nonneg _ (by omega), Int.emod_lt_of_pos _ (by omega), rfl, 0, rfl⟩
    · have h2' : ¬ (i : Int) < (n : Int) := by omega
      clear h
      go_enter Try.func53, Try.ntmps53
      go_wp2
      go_ret
      exact ⟨((i : Int) * 37 + 11) % m, Int.emod_nonneg _ (by omega), Int.emod_lt_of_pos _ (by omega), rfl, 0, rfl⟩
set_option maxHeartbeats 1000000 in
theorem has_any (D : List Int) (d : Int) (w : World) (v : Value) (h : SlR (Pl intCells) 1 w w.heap.size v D) :
    Calls Try.prog 101 #[v, .int .i64 d] w (RetQ (.bool (decide (d ∈ D))) w) := by
  obtain ⟨A, c, rfl, hc, hm, hel⟩ := h
  unfold maxLen at hm
  have hlm : D.length ≤ 9223372036854775807 := by omega
  have HEL := Lib.hid hel
  clear hel
  go_enter Try.func101, Try.ntmps101
  go_wp2
  go_loop [5] (fun i => ∃ k : Nat, k ≤ D.length ∧ i = .int .i64 (k : Int) ∧ (∀ j, (h : j < D.length) → j < k → D[j] ≠ d)) (fun i => D.length - (RowKit.intOf i).toNat)
  case atStart => exact ⟨0, Nat.zero_le _, rfl, fun j _ h => absurd h (Nat.not_lt_zero _)⟩
  case round =>
    obtain ⟨k, hk, rfl, hf⟩ := hrel
    have HF := Lib.hid hf
    clear hf
    by_cases hlt : k < D.length
    · obtain ⟨b, off, rfl, hblt, hcell⟩ := HEL.out (by omega)
      have hget : D[k]? = some D[k] := List.getElem?_eq_getElem hlt
      obtain ⟨us, _, hp, hcc⟩ := hcell k _ hget
      have hp : us = intCells D[k] := hp
      subst hp
      have x0 : w.cell? ⟨b, off + k, none⟩ = some (.int .i64 D[k]) := by have := hcc 0 _ rfl; simpa using this
      have HM := Lib.hid (List.getElem_mem hlt)
      have HN : Hid (D[k] ≠ d → ∀ j, (h : j < D.length) → j < k + 1 → D[j] ≠ d) := Lib.hid (fun hne j hj hjk => by
        by_cases e : j = k
        · subst e; exact hne
        · exact HF.out j hj (by omega))
      clear hcell hget hcc
      generalize D[k] = y at *
      by_cases hq : y = d
      · have hb : (y == d) = true := by simp [hq]
        have HR : Hid (decide (d ∈ D) = true) := Lib.hid (decide_eq_true (by rw [← hq]; exact HM.out))
        clear hq
        go_wp2
        go_ret
        exact ⟨by rw [HR.out]; rfl, 0, rfl⟩
      · have hb : (y == d) = false := by simp [hq]
        have HR := Lib.hid (HN.out hq)
        clear hq
        go_wp2
        go_round
        case rel => exact ⟨k + 1, by omega, by go_num, HR.out⟩
        case measure => simp [RowKit.intOf]; omega
    · have HR : Hid (decide (d ∈ D) = false) := Lib.hid (decide_eq_false (fun h => by
        obtain ⟨j, hj, e⟩ := List.mem_iff_getElem.1 h
        exact HF.out j hj (by omega) e))
      have hge : ¬ (k : Int) < (D.length : Int) := by omega
      go_wp2
      go_ret
      exact ⟨by rw [HR.out]; rfl, 0, rfl⟩
end Go.Proofs.Ytlbnebmdolnagaa

namespace Go.Proofs.Ytlbnebmdolnagaa
open Go.RowKit Go.Lib

/-- The edits that fit, as long as there is room. -/
def fitF (es : List Art) : Nat → List Edit → List Edit
  | _, [] => []
  | n, e :: r => if (findA es e.id).toList ≠ e.old.toList ∨ (e.kind = 1 ∧ 8 ≤ n) then fitF es n r else e :: fitF es (if e.kind = 1 then n + 1 else n) r
theorem fitF_skip {es : List Art} {n k : Nat} {P Q : List Edit} {e : Edit} {R : List Edit} (h : R = Q ++ fitF es n (P.drop k)) (hk : P[k]? = some e) (hc : (findA es e.id).toList ≠ e.old.toList ∨ (e.kind = 1 ∧ 8 ≤ n)) : R = Q ++ fitF es n (P.drop (k + 1)) := by
  obtain ⟨hlt, he⟩ := List.getElem?_eq_some_iff.1 hk
  rw [h, List.drop_eq_getElem_cons hlt, he, fitF, if_pos hc]
theorem fitF_take {es : List Art} {n k : Nat} {P Q : List Edit} {e : Edit} {R : List Edit} (h : R = Q ++ fitF es n (P.drop k)) (hk : P[k]? = some e) (h1 : (findA es e.id).toList = e.old.toList) (h2 : e.kind ≠ 1 ∨ n < 8) : R = (Q ++ [e]) ++ fitF es (if e.kind = 1 then n + 1 else n) (P.drop (k + 1)) := by
  obtain ⟨hlt, he⟩ := List.getElem?_eq_some_iff.1 hk
  rw [h, List.drop_eq_getElem_cons hlt, he, fitF, if_neg (by
    rintro (h | ⟨h3, h4⟩)
    · exact h h1
    · rcases h2 with h2 | h2
      · exact h2 h3
      · omega)]
  simp
theorem fitF_sub (es : List Art) : ∀ (P : List Edit) (n : Nat), (fitF es n P).Sublist P
  | [], _ => List.Sublist.refl _
  | e :: r, n => by
    rw [fitF]
    split
    · exact (fitF_sub es r n).cons _
    · exact (fitF_sub es r _).cons_cons _
theorem fitF_old (es : List Art) : ∀ (P : List Edit) (n : Nat), ∀ e ∈ fitF es n P, (findA es e.id).toList = e.old.toList
  | [], _, e, h => by cases h
  | a :: r, n, e, h => by
    rw [fitF] at h
    split at h
    · exact fitF_old es r n e h
    · rename_i hc
      rcases List.mem_cons.1 h with rfl | h
      · exact Classical.byContradiction fun hne => hc (.inl hne)
      · exact fitF_old es r _ e h
theorem fitF_room (es : List Art) : ∀ (P : List Edit) (n : Nat), n ≤ 8 → n + ((fitF es n P).filter (fun e => decide (e.kind = 1))).length ≤ 8
  | [], n, h => by simpa [fitF] using h
  | a :: r, n, h => by
    rw [fitF]
    split
    · exact fitF_room es r n h
    · rename_i hc
      by_cases hk : a.kind = 1
      · have hn : n < 8 := by
          rcases Nat.lt_or_ge n 8 with h8 | h8
          · exact h8
          · exact absurd (.inr ⟨hk, h8⟩) hc
        have := fitF_room es r (n + 1) (by omega)
        rw [if_pos hk, List.filter_cons, if_pos (by simp [hk]), List.length_cons]
        omega
      · have := fitF_room es r n h
        rw [if_neg hk, List.filter_cons, if_neg (by simp [hk])]
        exact this
theorem sub_ok {P Q : List Edit} (h : okPatch P = true) (hs : Q.Sublist P) : okPatch Q = true := by
  rw [okPatch_iff] at *
  exact ⟨fun a ha => h.1 a (hs.subset ha), h.2.1.sublist hs, Nat.le_trans hs.length_le h.2.2⟩

end Go.Proofs.Ytlbnebmdolnagaa

namespace Go.Proofs.Ytlbnebmdolnagaa
open Go.RowKit Go.Lib

/-- A patch that fits a statute. -/
structure Fits (S : List Art) (P : List Edit) : Prop where
  ok : okPatch P = true
  old : ∀ e ∈ P, (findA S e.id).toList = e.old.toList
  room : S.length + (P.filter (fun e => decide (e.kind = 1))).length ≤ 8
theorem Fits.of {S : List Art} {P : List Edit} (h : okPatch P = true) (h8 : S.length ≤ 8) : Fits S (fitF S S.length P) :=
  ⟨sub_ok h (fitF_sub S P _), fitF_old S P _, fitF_room S P _ h8⟩
def mixE (P : List Edit) (e : Edit) : Edit := if (editOf P e.id).kind = 0 then e else editOf P e.id
theorem kind_old {e : Edit} (h : okEdit e = true) : e.kind = 1 ↔ e.old.toList = [] := by
  obtain ⟨_, _, hk⟩ := okEdit_kinds h
  rcases hk with ⟨k, ho, _⟩ | ⟨k, ho, _⟩ | ⟨k, ho, _⟩
  · rw [ho, ByteArray.toList_eq]; simp [k]
  · have : e.old.toList ≠ [] := by intro h0; rw [h0] at ho; revert ho; decide
    simp [k, this]
  · have : e.old.toList ≠ [] := by intro h0; rw [h0] at ho; revert ho; decide
    simp [k, this]
theorem mixE_facts {S : List Art} {P Q : List Edit} (hP : Fits S P) (hQ : Fits S Q) {e : Edit} (he : e ∈ Q) : okEdit (mixE P e) = true ∧ (mixE P e).id = e.id ∧ (findA S e.id).toList = (mixE P e).old.toList := by
  have h1 := ((okPatch_iff Q).1 hQ.ok).1 e he
  unfold mixE
  split
  · exact ⟨h1, rfl, hQ.old e he⟩
  · rename_i hk
    rcases editOf_cases P e.id with ⟨hm, hi⟩ | ⟨hn, _⟩
    · refine ⟨((okPatch_iff P).1 hP.ok).1 _ hm, hi, ?_⟩
      have := hP.old _ hm
      rw [hi] at this
      exact this
    · rw [hn] at hk
      exact absurd rfl hk
theorem Fits.mix {S : List Art} {P Q : List Edit} (hP : Fits S P) (hQ : Fits S Q) : Fits S (Q.map (mixE P)) where
  ok := by
    have hq := (okPatch_iff Q).1 hQ.ok
    rw [okPatch_iff]
    refine ⟨fun a ha => ?_, ?_, by rw [List.length_map]; exact hq.2.2⟩
    · obtain ⟨e, he, rfl⟩ := List.mem_map.1 ha
      exact (mixE_facts hP hQ he).1
    · have hr := hq.2.1
      unfold RiseE at *
      rw [List.pairwise_map]
      exact hr.imp_of_mem (fun {a c} ha hc h => by rw [(mixE_facts hP hQ ha).2.1, (mixE_facts hP hQ hc).2.1]; exact h)
  old := fun a ha => by
    obtain ⟨e, he, rfl⟩ := List.mem_map.1 ha
    have := mixE_facts hP hQ he
    rw [this.2.1]
    exact this.2.2
  room := by
    have h := hQ.room
    have hq := (okPatch_iff Q).1 hQ.ok
    rw [List.filter_map, List.length_map]
    have : Q.filter ((fun e => decide (e.kind = 1)) ∘ mixE P) = Q.filter (fun e => decide (e.kind = 1)) := List.filter_congr (fun e he => by
      obtain ⟨h1, h2, h3⟩ := mixE_facts hP hQ he
      have a := kind_old h1
      have b := kind_old (hq.1 e he)
      rw [← h3] at a
      rw [← hQ.old e he] at b
      show decide ((mixE P e).kind = 1) = decide (e.kind = 1)
      rw [decide_eq_decide, a, b])
    rw [this]
    exact h

def StatutePost (w : World) (e : Ending) (w' : World) : Prop :=
  ∃ v1 v2 v3 S P Q, e = .returned (.tuple #[v1, v2, v3]) ∧ OwnL artCells S w.heap.size w' v1 ∧ OwnL editCells P w.heap.size w' v2 ∧ OwnL editCells Q w.heap.size w' v3 ∧ okStat S = true ∧ Fits S P ∧ Fits S Q ∧ Below w.heap.size w w'

theorem own_same {α : Type} {f : α → List Value} {xs : List α} {base b : Nat} {w w' : World} {v : Value} (h : OwnL f xs base w v) (ho : Only b w w') (hb : b < base) (h0 : b ≤ base) : OwnL f xs b w' v := (h.only hb ho).less h0

end Go.Proofs.Ytlbnebmdolnagaa

namespace Go.Proofs.Ytlbnebmdolnagaa
open Go.RowKit Go.Lib

theorem rise_ints : ∀ {a b : List Int}, a.Pairwise (· < ·) → b.Pairwise (· < ·) → (∀ i, i ∈ a ↔ i ∈ b) → a = b
  | [], [], _, _, _ => rfl
  | [], y :: b, _, _, h => absurd ((h y).2 List.mem_cons_self) (by simp)
  | x :: a, [], _, _, h => absurd ((h x).1 List.mem_cons_self) (by simp)
  | x :: a, y :: b, ha, hb, h => by
    obtain ⟨ha1, ha2⟩ := List.pairwise_cons.1 ha
    obtain ⟨hb1, hb2⟩ := List.pairwise_cons.1 hb
    have hxy : x = y := by
      rcases List.mem_cons.1 ((h x).1 List.mem_cons_self) with e | hx
      · exact e
      · rcases List.mem_cons.1 ((h y).2 List.mem_cons_self) with e | hy
        · exact e.symm
        · have := hb1 x hx
          have := ha1 y hy
          omega
    subst hxy
    rw [rise_ints ha2 hb2 (fun i => by
      constructor
      · intro hi
        rcases List.mem_cons.1 ((h i).1 (List.mem_cons_of_mem _ hi)) with e | h'
        · subst e; exact absurd (ha1 i hi) (by omega)
        · exact h'
      · intro hi
        rcases List.mem_cons.1 ((h i).2 (List.mem_cons_of_mem _ hi)) with e | h'
        · subst e; exact absurd (hb1 i hi) (by omega)
        · exact h')]
theorem riseE_ext : ∀ {a b : List Edit}, RiseE a → RiseE b → (∀ e, e ∈ a ↔ e ∈ b) → a = b
  | [], [], _, _, _ => rfl
  | [], y :: b, _, _, h => absurd ((h y).2 List.mem_cons_self) (by simp)
  | x :: a, [], _, _, h => absurd ((h x).1 List.mem_cons_self) (by simp)
  | x :: a, y :: b, ha, hb, h => by
    obtain ⟨ha1, ha2⟩ := List.pairwise_cons.1 ha
    obtain ⟨hb1, hb2⟩ := List.pairwise_cons.1 hb
    have hxy : x = y := by
      rcases List.mem_cons.1 ((h x).1 List.mem_cons_self) with e | hx
      · exact e
      · rcases List.mem_cons.1 ((h y).2 List.mem_cons_self) with e | hy
        · exact e.symm
        · have := hb1 x hx
          have := ha1 y hy
          omega
    subst hxy
    rw [riseE_ext ha2 hb2 (fun i => by
      constructor
      · intro hi
        rcases List.mem_cons.1 ((h i).1 (List.mem_cons_of_mem _ hi)) with e | h'
        · subst e; exact absurd (ha1 i hi) (by omega)
        · exact h'
      · intro hi
        rcases List.mem_cons.1 ((h i).2 (List.mem_cons_of_mem _ hi)) with e | h'
        · subst e; exact absurd (hb1 i hi) (by omega)
        · exact h')]
theorem confL_rise {P Q : List Edit} (hP : RiseE P) : (confL P Q).Pairwise (· < ·) := by
  unfold confL
  rw [List.pairwise_map]
  exact hP.sublist List.filter_sublist
theorem confL_mem {P Q : List Edit} (hQ : RiseE Q) (i : Int) : i ∈ confL P Q ↔ ∃ a ∈ P, ∃ b ∈ Q, a.id = i ∧ b.id = i ∧ a ≠ b := by
  unfold confL
  rw [List.mem_map]
  constructor
  · rintro ⟨a, ha, rfl⟩
    obtain ⟨hP, hc⟩ := List.mem_filter.1 ha
    unfold confB hasE at hc
    rw [Bool.and_eq_true, List.any_eq_true] at hc
    obtain ⟨⟨b, hb, hi⟩, hs⟩ := hc
    have hi : b.id = a.id := of_decide_eq_true hi
    have he : editOf Q a.id = b := by rw [← hi]; exact editOf_mem hQ hb
    rw [he] at hs
    exact ⟨a, hP, b, hb, rfl, hi, fun e => by rw [sameB_iff.2 e] at hs; cases hs⟩
  · rintro ⟨a, ha, b, hb, h1, h2, hne⟩
    refine ⟨a, List.mem_filter.2 ⟨ha, ?_⟩, h1⟩
    unfold confB
    have hh : hasE Q a.id = true := List.any_eq_true.2 ⟨b, hb, by simp [h1, h2]⟩
    have he : editOf Q a.id = b := by rw [h1, ← h2]; exact editOf_mem hQ hb
    rw [hh, he]
    have : sameB a b = false := by rw [Bool.eq_false_iff]; exact fun k => hne (sameB_iff.1 k)
    rw [this]
    rfl
theorem confL_comm {P Q : List Edit} (hP : RiseE P) (hQ : RiseE Q) : confL P Q = confL Q P :=
  rise_ints (confL_rise hP) (confL_rise hQ) (fun i => by
    rw [confL_mem hQ, confL_mem hP]
    constructor
    · rintro ⟨a, ha, b, hb, h1, h2, hne⟩
      exact ⟨b, hb, a, ha, h2, h1, fun e => hne e.symm⟩
    · rintro ⟨a, ha, b, hb, h1, h2, hne⟩
      exact ⟨b, hb, a, ha, h2, h1, fun e => hne e.symm⟩)
theorem filter_two {α : Type} (p : α → Bool) (l : List α) : l.length = (l.filter p).length + (l.filter (fun x => !p x)).length := by
  induction l with
  | nil => rfl
  | cons x r ih =>
    rw [List.filter_cons, List.filter_cons]
    cases h : p x
    · simp
      omega
    · simp
      omega
theorem rest_len {P Q : List Edit} (hP : RiseE P) (hQ : RiseE Q) : P.length + (restL P Q).length = Q.length + (restL Q P).length := by
  have h1 : P.filter (fun e => memB Q e) = Q.filter (fun e => memB P e) := riseE_ext (hP.sublist List.filter_sublist) (hQ.sublist List.filter_sublist) (fun e => by
    rw [List.mem_filter, List.mem_filter, memB_iff, memB_iff]
    exact ⟨fun h => ⟨h.2, h.1⟩, fun h => ⟨h.2, h.1⟩⟩)
  have h2 := filter_two (fun e => memB Q e) P
  have h3 := filter_two (fun e => memB P e) Q
  rw [h1] at h2
  have e1 : restL P Q = Q.filter (fun e => !memB P e) := rfl
  have e2 : restL Q P = P.filter (fun e => !memB Q e) := rfl
  rw [e1, e2]
  omega
theorem Merged.symm {P Q R : List Edit} (h : Merged P Q R) (hP : RiseE P) (hQ : RiseE Q) : Merged Q P R := ⟨h.rise, fun e => by rw [h.mem]; exact Or.comm, by rw [h.len, rest_len hP hQ]⟩
theorem Merged.uniq {P Q R T : List Edit} (h : Merged P Q R) (k : Merged P Q T) : R = T := riseE_ext h.rise k.rise (fun e => by rw [h.mem, k.mem])
theorem Merged.ok {P Q R : List Edit} (h : Merged P Q R) (hP : okPatch P = true) (hQ : okPatch Q = true) (h16 : P.length + (restL P Q).length ≤ 16) : okPatch R = true := by
  rw [okPatch_iff]
  refine ⟨fun e he => ?_, h.rise, by rw [h.len]; exact h16⟩
  rcases (h.mem e).1 he with hm | hm
  · exact ((okPatch_iff P).1 hP).1 e hm
  · exact ((okPatch_iff Q).1 hQ).1 e hm
theorem Fits.fits {S : List Art} {P : List Edit} (h : Fits S P) : fits S P = true := fits_iff.2 (fun e he => by
  rw [← mk_toList (findA S e.id), h.old e he, mk_toList])

theorem sub_len {L : List Int} : ∀ {M : List Int}, L.Nodup → (∀ i ∈ L, i ∈ M) → L.length ≤ M.length := by
  induction L with
  | nil => intro M _ _; simp
  | cons x L ih =>
    intro M hn hs
    obtain ⟨h1, h2⟩ := List.nodup_cons.1 hn
    have hx := hs x List.mem_cons_self
    have := ih (M := M.erase x) h2 (fun i hi => (List.mem_erase_of_ne (fun e => h1 (by rw [← e]; exact hi))).2 (hs i (List.mem_cons_of_mem _ hi)))
    rw [List.length_erase_of_mem hx] at this
    have hp : 0 < M.length := List.length_pos_of_mem hx
    simp only [List.length_cons]
    omega
/-- A patch that fits leads to a statute that is not too long. -/
theorem Fits.apply {S : List Art} {P : List Edit} (h : Fits S P) (hS : okStat S = true) : applyO S P = some (applyL S P) := by
  have hG := GoodA.of hS
  have hB := Becomes.applyL hG h.ok
  have hl : (applyL S P).length ≤ 8 := by
    refine Nat.le_trans ?_ h.room
    have hsub : ∀ i ∈ (applyL S P).map (·.id), i ∈ S.map (·.id) ++ (P.filter (fun e => decide (e.kind = 1))).map (·.id) := by
      intro i hi
      obtain ⟨a, ha, rfl⟩ := List.mem_map.1 hi
      rw [List.mem_append]
      have hf := hB.find a.id
      rw [findA_mem hB.good.rise ha] at hf
      have hne := hB.good.text ha
      unfold target at hf
      split at hf
      · left
        rcases findA_cases S a.id with ⟨b, hb, hi, _⟩ | ⟨h0, _⟩
        · exact List.mem_map.2 ⟨b, hb, hi⟩
        · rw [h0] at hf
          exact absurd hf hne
      · rename_i hk
        rcases editOf_cases P a.id with ⟨hm, hi⟩ | ⟨h0, _⟩
        · have hok := ((okPatch_iff P).1 h.ok).1 _ hm
          by_cases h1 : (editOf P a.id).kind = 1
          · right
            exact List.mem_map.2 ⟨_, List.mem_filter.2 ⟨hm, decide_eq_true h1⟩, hi⟩
          · left
            have ho := h.old _ hm
            rw [hi] at ho
            rcases findA_cases S a.id with ⟨b, hb, hi', _⟩ | ⟨h0, _⟩
            · exact List.mem_map.2 ⟨b, hb, hi'⟩
            · rw [h0, ByteArray.toList_eq] at ho
              exact absurd ((kind_old hok).2 ho.symm) h1
        · rw [h0] at hk
          exact absurd rfl hk
    have hnd : ((applyL S P).map (·.id)).Nodup := by
      rw [List.nodup_iff_pairwise_ne, List.pairwise_map]
      exact hB.good.rise.imp (fun h => by omega)
    have := sub_len hnd hsub
    simpa using this
  unfold applyO
  rw [if_pos ⟨h.fits, hl⟩]
/-- What is left of a patch behind the other one leads to the statute of the merged patch. -/
theorem merged_apply {S : List Art} {P Q M : List Edit} (hS : okStat S = true) (hP : Fits S P) (hQ : Fits S Q) (hc : confL P Q = []) (hM : Merged P Q M) (h16 : P.length + (restL P Q).length ≤ 16) :
    okStat (applyL S P) = true ∧ okPatch (restL P Q) = true ∧ applyO (applyL S P) (restL P Q) = applyO S M := by
  have hG := GoodA.of hS
  have hPr := ((okPatch_iff P).1 hP.ok).2.1
  have hQr := ((okPatch_iff Q).1 hQ.ok).2.1
  have hA := (applyO_ok hG hP.ok (hP.apply hS))
  have hX : okPatch (restL P Q) = true := sub_ok hQ.ok List.filter_sublist
  have hXr := ((okPatch_iff _).1 hX).2.1
  have hMok := hM.ok hP.ok hQ.ok h16
  have hX' : ∀ e ∈ restL P Q, e ∈ Q ∧ ∀ a ∈ P, a.id ≠ e.id := fun e he => by
    obtain ⟨h1, h2⟩ := List.mem_filter.1 he
    refine ⟨h1, fun a ha hi => ?_⟩
    have := noconf hQr hc ha h1 hi
    subst this
    rw [memB_iff.2 ha] at h2
    cases h2
  have hfX : fits (applyL S P) (restL P Q) = true := fits_iff.2 (fun e he => by
    obtain ⟨h1, h2⟩ := hX' e he
    rw [hA.2.1.find, target_old h2, ← mk_toList (findA S e.id), hQ.old e h1, mk_toList])
  have hfM : fits S M = true := fits_iff.2 (fun e he => by
    have : (findA S e.id).toList = e.old.toList := by
      rcases (hM.mem e).1 he with h | h
      · exact hP.old e h
      · exact hQ.old e h
    rw [← mk_toList (findA S e.id), this, mk_toList])
  have hB1 := Becomes.applyL (GoodA.of hA.1) hX
  have hB2 := Becomes.applyL hG hMok
  have hE : applyL (applyL S P) (restL P Q) = applyL S M := hB1.good.ext hB2.good (fun i => by
    rw [hB1.find, hB2.find]
    unfold target
    rcases editOf_cases (restL P Q) i with ⟨hm, hi⟩ | ⟨h0, hno⟩
    · have hk := kind_ne (((okPatch_iff _).1 hX).1 _ hm)
      have hmM : editOf (restL P Q) i ∈ M := (hM.mem _).2 (.inr (hX' _ hm).1)
      have e1 := editOf_mem hM.rise hmM
      rw [hi] at e1
      rw [if_neg hk, e1, if_neg hk]
    · rw [h0, if_pos (show noEdit.kind = 0 from rfl), hA.2.1.find]
      unfold target
      rcases editOf_cases P i with ⟨hm, hi⟩ | ⟨h1, hno1⟩
      · have hk := kind_ne (((okPatch_iff P).1 hP.ok).1 _ hm)
        have hmM : editOf P i ∈ M := (hM.mem _).2 (.inl hm)
        have e1 := editOf_mem hM.rise hmM
        rw [hi] at e1
        rw [if_neg hk, e1, if_neg hk]
      · rw [h1, if_pos (show noEdit.kind = 0 from rfl), editOf_none (fun e he hi => by
          rcases (hM.mem e).1 he with h | h
          · exact hno1 e h hi
          · by_cases hm : e ∈ P
            · exact hno1 e hm hi
            · have hb : memB P e = false := by rw [Bool.eq_false_iff]; exact fun k => hm (memB_iff.1 k)
              exact hno e (List.mem_filter.2 ⟨h, by rw [hb]; rfl⟩) hi), if_pos (show noEdit.kind = 0 from rfl)])
  refine ⟨hA.1, hX, ?_⟩
  unfold applyO
  rw [hE, hfX, hfM]
end Go.Proofs.Ytlbnebmdolnagaa

namespace Go.Proofs.Ytlbnebmdolnagaa
open Go.RowKit

set_option maxHeartbeats 400000 in
theorem long_no (A1 : Option Addr) (n1 c1 : Nat) (A2 : Option Addr) (n2 c2 : Nat) (w : World) (h1 : n1 ≤ 1048576) (h2 : n2 ≤ 1048576) :
    Calls Try.prog 45 #[.slice A1 n1 c1, .slice A2 n2 c2] w (RetQ (.bool false) w) := by
  have e1 : ¬ (1048576 : Int) < (n1 : Int) := by omega
  have e2 : decide ((1048576 : Int) < (n2 : Int)) = false := by simp; omega
  clear h1 h2
  go_enter Try.func45, Try.ntmps45
  go_wp2
  go_ret
  exact ⟨rfl, 0, rfl⟩
set_option maxHeartbeats 400000 in
theorem long_yes (A1 : Option Addr) (n1 c1 : Nat) (A2 : Option Addr) (n2 c2 : Nat) (w : World) (h : ¬ (n1 ≤ 1048576 ∧ n2 ≤ 1048576)) :
    Calls Try.prog 45 #[.slice A1 n1 c1, .slice A2 n2 c2] w (RetQ (.bool true) w) := by
  by_cases h1 : n1 ≤ 1048576
  · have e1 : ¬ (1048576 : Int) < (n1 : Int) := by omega
    have e2 : decide ((1048576 : Int) < (n2 : Int)) = true := by simp; omega
    clear h1 h
    go_enter Try.func45, Try.ntmps45
    go_wp2
    go_ret
    exact ⟨rfl, 0, rfl⟩
  · have e1 : (1048576 : Int) < (n1 : Int) := by omega
    clear h1 h
    go_enter Try.func45, Try.ntmps45
    go_wp2
    go_ret
    exact ⟨rfl, 0, rfl⟩
end Go.Proofs.Ytlbnebmdolnagaa
namespace Go.Proofs.Ytlbnebmdolnagaa
open Go.ChangeShapes Go.WideShapes Go.ChangeAt Go.RowKit
set_option maxRecDepth 100000 in
/-- What a slice of bytes that came in is. -/
theorem bytes_of {H : Type} {enc : TypeId × Value → H} {W : World} {v : Value} {d : DataW H} {p : List MemPlace} {r : Reach} {base : Nat} (hv : Value.okWide Try.prog W r base 22 v) (h : DataW.Trod enc Try.prog W 0 (fun _ => true) true 22 v d p) :
    ∃ A n c, v = .slice A n c ∧ BytesAt W W.heap.size A n := by
  obtain ⟨A, n, c, rfl⟩ := okWide_slice Try.underlying22 hv
  obtain ⟨fuel, hf⟩ := h
  have hlt := DataW.trod_lt fuel _ _ _ hf
  rcases open_ints Try.underlying22 Try.underlying5 (by kernel_rfl) hf with ⟨hcs, _⟩ | ⟨x, l, c', zs, hcs, _, hl, hm, hz, _, hcell, hwz⟩
  · simp [Value.cells] at hcs
    obtain ⟨rfl, rfl, rfl⟩ := hcs
    exact ⟨none, 0, 0, rfl, Nat.zero_le _, fun h => absurd h (Nat.lt_irrefl 0)⟩
  · simp [Value.cells] at hcs
    obtain ⟨rfl, rfl, rfl⟩ := hcs
    refine ⟨some x, n, c, rfl, Nat.le_trans hl hm, fun hn => ?_⟩
    have hz' : zs.length = c := by simpa using hz
    obtain ⟨b, off, spot⟩ := x
    have h0 := hcell 0 (by omega)
    have hspot : spot = none := by simpa [Addr.add] using World.cell?_spot h0
    subst hspot
    have hcl : ∀ i, i < zs.length → W.cell? ⟨b, off + i, none⟩ = some (.int .u8 (zs.getD i 0)) := fun i hi => by
      have e : (⟨b, off, none⟩ : Addr).add i = ⟨b, off + i, none⟩ := by
        unfold Addr.add
        by_cases h : i = 0 <;> simp [h]
      rw [← e]
      exact hcell i hi
    refine ⟨b, off, rfl, ?_, fun i hi => ?_⟩
    · have := hcl 0 (by omega)
      rcases Nat.lt_or_ge b W.heap.size with hlt' | hge
      · exact hlt'
      · simp [World.cell?, Array.getElem?_eq_none hge] at this
    · have hin : zs.getD i 0 ∈ zs := by
        rw [List.getD_eq_getElem?_getD, List.getElem?_eq_getElem (by omega)]
        exact List.getElem_mem _
      have hw := hwz _ hin
      have hb := bounds_u8 hw
      refine ⟨(zs.getD i 0).toNat, by omega, ?_⟩
      rw [hcl i (by omega)]
      congr 2
      omega

end Go.Proofs.Ytlbnebmdolnagaa

namespace Go.Proofs.Ytlbnebmdolnagaa
open Go.RowKit Go.Lib

theorem int_at {w : World} {B b off : Nat} {xs : List Int} (h : ∀ (k : Nat) (x : Int), xs[k]? = some x → ∃ us, us.length = 1 ∧ Pl intCells w B us x ∧ ∀ (j : Nat) (u : Value), us[j]? = some u → w.cell? ⟨b, off + k * 1 + j, none⟩ = some u) {k : Nat} {x : Int} (hk : xs[k]? = some x) : w.cell? ⟨b, off + k, none⟩ = some (.int .i64 x) := by
  obtain ⟨us, _, hp, hcl⟩ := h k x hk
  have hp : us = intCells x := hp
  subst hp
  have := hcl 0 _ rfl
  rwa [Nat.mul_one, Nat.add_zero] at this

end Go.Proofs.Ytlbnebmdolnagaa

namespace Go.Proofs.Ytlbnebmdolnagaa
open Go.RowKit Go.Lib

def inR (d : Int) (x : BRow) : Bool := decide (x.lo ≤ d) && decide (d ≤ x.hi)
theorem inR_step {L : List BRow} {k : Nat} {x : BRow} {d : Int} (h : L[k]? = some x) : (L.take (k + 1)).any (inR d) = ((L.take k).any (inR d) || inR d x) := by
  obtain ⟨h1, h2⟩ := List.getElem?_eq_some_iff.1 h
  rw [List.take_succ_eq_append_getElem h1, List.any_append, h2]
  simp
theorem inR_all {S : List Art} {ls : List Acta} {L : List BRow} {d : Int} (h : Cover S ls (turnsL ls).length (L.map bPair)) (h0 : 0 ≤ d) (h1 : d ≤ 999) : L.any (inR d) = !(onO S ls d).isSome := by
  have hc := h.all d h0 (by rw [bound_end]; omega)
  rw [Bool.eq_iff_iff]
  rw [List.any_eq_true]
  have e1 : (∃ x, x ∈ L ∧ inR d x = true) ↔ (∃ r ∈ L.map bPair, r.1 ≤ d ∧ d ≤ r.2) := by
    constructor
    · rintro ⟨x, hx, hi⟩
      unfold inR at hi
      rw [Bool.and_eq_true, decide_eq_true_eq, decide_eq_true_eq] at hi
      exact ⟨bPair x, List.mem_map.2 ⟨x, hx, rfl⟩, hi⟩
    · rintro ⟨r, hr, hi⟩
      obtain ⟨x, hx, rfl⟩ := List.mem_map.1 hr
      exact ⟨x, hx, by unfold inR; rw [Bool.and_eq_true, decide_eq_true_eq, decide_eq_true_eq]; exact hi⟩
  rw [e1, hc]
  cases onO S ls d <;> simp
/-- A day is a changed day exactly if its statute is not that of the day before. -/
theorem changed_iff {S : List Art} {ls : List Acta} {D : List Int} {d : Int} (hok : okActs ls = true) (h : Changed S ls ((turnsL ls).length - 1) D) (h0 : 1 ≤ d) (h1 : d ≤ 999) : d ∈ D ↔ onO S ls (d - 1) ≠ onO S ls d := by
  rw [h.2 d]
  constructor
  · exact fun h => h.2
  · intro hne
    refine ⟨?_, hne⟩
    rw [List.take_of_length_le (by rw [List.length_drop]; omega)]
    obtain ⟨f1, f2⟩ := turnsL_facts ls
    have hT : Turn ls d := by
      by_cases ht : Turn ls d
      · exact ht
      · exfalso
        apply hne
        exact (on_still (S := S) (t := d - 1) (d := d) hok (by omega) (by omega) h1 (fun x hx => by
          by_cases e : x = d
          · rw [e] at hx; exact absurd hx ht
          · omega)).symm
    obtain ⟨j, hj, he⟩ := List.mem_iff_getElem.1 ((f2 d).2 hT)
    obtain ⟨z1, z2⟩ := List.getElem?_eq_some_iff.1 (turns_first ls)
    have hj0 : 0 < j := by
      rcases Nat.eq_zero_or_pos j with e | e
      · subst e; omega
      · exact e
    exact List.mem_iff_getElem.2 ⟨j - 1, by rw [List.length_drop]; omega, by rw [List.getElem_drop]; simp only [show 1 + (j - 1) = j by omega]; exact he⟩

theorem some_all {S : List Art} {ls : List Acta} {d : Int} (h : AllDays S ls) (h0 : 0 ≤ d) (h1 : d ≤ 999) : (onO S ls d).isSome = true := by
  cases e : onO S ls d with
  | none => exact absurd e (h d h0 h1)
  | some R => rfl
theorem BytesAt.on {w w' : World} {B B' : Nat} {A : Option Addr} {n : Nat} (h : BytesAt w B A n) (hb : Below B w w') (hB : B ≤ B') : BytesAt w' B' A n := ⟨h.1, fun h0 => by
  obtain ⟨b, off, rfl, hlt, hc⟩ := h.2 h0
  exact ⟨b, off, rfl, by omega, fun i hi => by
    obtain ⟨x, hx, hc'⟩ := hc i hi
    exact ⟨x, hx, (hb.cell (p := ⟨b, off + i, none⟩) hlt).trans hc'⟩⟩⟩

end Go.Proofs.Ytlbnebmdolnagaa

namespace Go.Proofs.Ytlbnebmdolnagaa
open Go.RowKit Go.Lib

end Go.Proofs.Ytlbnebmdolnagaa

namespace Go.Proofs.Ytlbnebmdolnagaa
open Go.RowKit Go.Lib

theorem turnsK_step {ls : List Acta} {k : Nat} (h : k < ls.length) (x : Int) : x ∈ turnsK ls (k + 1) ↔ x ∈ turnsK ls k ∨ (inD ls[k].beg = true ∧ x = ls[k].beg) ∨ (inD ls[k].fin = true ∧ x = ls[k].fin) := by
  rw [turnsK_succ h, List.mem_append, List.mem_filter]
  simp only [List.mem_cons, List.not_mem_nil, or_false]
  constructor
  · rintro (h | ⟨rfl | rfl, h⟩)
    · exact .inl h
    · exact .inr (.inl ⟨h, rfl⟩)
    · exact .inr (.inr ⟨h, rfl⟩)
  · rintro (h | ⟨h, rfl⟩ | ⟨h, rfl⟩)
    · exact .inl h
    · exact .inr ⟨.inl rfl, h⟩
    · exact .inr ⟨.inr rfl, h⟩
def TurnsPost (ls : List Acta) (w : World) (e : Ending) (w' : World) : Prop :=
  ∃ v M, e = .returned v ∧ OwnL intCells M w.heap.size w' v ∧ (∀ x, x ∈ M ↔ Turn ls x) ∧ M.length ≤ 1 + 2 * ls.length ∧ Below w.heap.size w w'

end Go.Proofs.Ytlbnebmdolnagaa
