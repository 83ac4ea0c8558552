/- The days on which acts begin or end, before they are sorted: the program's; put to their place: the reference's. Sorted lists compacted; the sort and the compaction at int64, by the library's contracts. The days on which acts begin or end, walked: the program's. Statutes between turns: plain. The intervals of broken days, walked: the program's. Statutes compared, the broken and the changed days, walked: the program's. The changed days, walked: the program's. A number chosen by a byte, a number in a list, walked: the laws'. FnDays, walked. -/
import Derived.Test.YtmgdodgofpapgaaPT
import Derived.Test.YtmgdodgofpapgaaShelfT
import Derived.Test.YtmgdodgofpapgaaPF
namespace Go.Proofs.Ytmgdodgofpapgaa
open Go.RowKit Go.Lib

def inD (d : Int) : Bool := inB d 0 999
def turnsK (ls : List Acta) (k : Nat) : List Int := 0 :: (ls.take k).flatMap (fun a => [a.beg, a.fin].filter inD)
theorem turnsK_succ {ls : List Acta} {k : Nat} (h : k < ls.length) : turnsK ls (k + 1) = turnsK ls k ++ [ls[k].beg, ls[k].fin].filter inD := by
  unfold turnsK
  rw [List.take_succ_eq_append_getElem h, List.flatMap_append]
  simp
theorem turnsK_len (ls : List Acta) (k : Nat) : (turnsK ls k).length ≤ 1 + 2 * k := by
  induction k with
  | zero => simp [turnsK]
  | succ k ih =>
    by_cases h : k < ls.length
    · rw [turnsK_succ h, List.length_append]
      have := List.length_filter_le inD [ls[k].beg, ls[k].fin]
      simp at this
      omega
    · have e1 : ls.take (k + 1) = ls := List.take_of_length_le (by omega)
      have e2 : ls.take k = ls := List.take_of_length_le (by omega)
      unfold turnsK at *
      rw [e1]
      rw [e2] at ih
      omega
/-- The days on which acts begin or end, and the day 0. -/
def Turn (ls : List Acta) (d : Int) : Prop := d = 0 ∨ (0 ≤ d ∧ d ≤ 999 ∧ ∃ a ∈ ls, d = a.beg ∨ d = a.fin)
theorem turnsK_mem {ls : List Acta} {d : Int} : d ∈ turnsK ls ls.length ↔ Turn ls d := by
  unfold turnsK Turn
  rw [List.take_length, List.mem_cons, List.mem_flatMap]
  refine or_congr Iff.rfl ⟨?_, ?_⟩
  · rintro ⟨a, ha, hd⟩
    obtain ⟨h1, h2⟩ := List.mem_filter.1 hd
    unfold inD at h2
    rw [inB_iff] at h2
    exact ⟨h2.1, h2.2, a, ha, by simpa using h1⟩
  · rintro ⟨h1, h2, a, ha, hd⟩
    exact ⟨a, ha, List.mem_filter.2 ⟨by simpa using hd, by unfold inD; rw [inB_iff]; exact ⟨h1, h2⟩⟩⟩

theorem day2_val (n : Int) (w : World) (r : Bool) (h : inD n = r) : Calls Try.prog 45 #[.int .i64 n] w (RetQ (.bool r) w) := h ▸ day2_any n w
theorem day1_val (n : Int) (w : World) (r : Bool) (h : inD n = r) : Calls Try.prog 48 #[.int .i64 n] w (RetQ (.bool r) w) := h ▸ day1_any n w

def PutPost (L : List Int) (n : Int) (w : World) (e : Ending) (w' : World) : Prop :=
  ∃ v M, e = .returned v ∧ OwnL intCells M w.heap.size w' v ∧ (∀ x, x ∈ M ↔ x = n ∨ x ∈ L) ∧ M.length ≤ L.length + 1 ∧ Below w.heap.size w w'
/-- A list on its way: k are through, n is in it or not yet. -/
structure Putting (L : List Int) (n : Int) (k : Nat) (d : Bool) (M : List Int) : Prop where
  mem : ∀ x, x ∈ M ↔ (d = true ∧ x = n) ∨ x ∈ L.take k
  len : M.length ≤ k + (if d then 1 else 0)
theorem take_mem {L : List Int} {k : Nat} (hk : k < L.length) (x : Int) : x ∈ L.take (k + 1) ↔ x ∈ L.take k ∨ x = L[k] := by
  rw [List.take_succ_eq_append_getElem hk, List.mem_append, List.mem_singleton]
theorem Putting.start (L : List Int) (n : Int) : Putting L n 0 false [] := ⟨by simp, by simp⟩
theorem Putting.keep {L M : List Int} {n : Int} {k : Nat} {d : Bool} (h : Putting L n k d M) (hk : k < L.length) : Putting L n (k + 1) d (M ++ [L[k]]) := ⟨fun x => by
  rw [take_mem hk, List.mem_append, List.mem_singleton, h.mem x, or_assoc], by rw [List.length_append, List.length_singleton]; have := h.len; omega⟩
theorem Putting.hit {L M : List Int} {n : Int} {k : Nat} (h : Putting L n k false M) (hk : k < L.length) (e : L[k] = n) : Putting L n (k + 1) true (M ++ [L[k]]) := ⟨fun x => by
  rw [take_mem hk, List.mem_append, List.mem_singleton, h.mem x, e]
  by_cases h1 : x = n <;> by_cases h2 : x ∈ L.take k <;> simp only [h1, h2, or_true, or_false, false_or, and_true, and_false, reduceCtorEq], by rw [List.length_append, List.length_singleton]; have := h.len; simp at this ⊢; omega⟩
theorem Putting.add {L M : List Int} {n : Int} {k : Nat} (h : Putting L n k false M) (hk : k < L.length) : Putting L n (k + 1) true ((M ++ [n]) ++ [L[k]]) := ⟨fun x => by
  rw [take_mem hk, List.mem_append, List.mem_append, List.mem_singleton, List.mem_singleton, h.mem x]
  generalize L[k] = y
  by_cases h1 : x = n <;> by_cases h2 : x ∈ L.take k <;> by_cases h3 : x = y <;> simp only [h1, h2, h3, true_and, false_and, or_true, true_or, or_false, false_or, and_true, and_false, reduceCtorEq], by simp; have := h.len; simp at this; omega⟩
theorem Putting.done {L M : List Int} {n : Int} (h : Putting L n L.length true M) : (∀ x, x ∈ M ↔ x = n ∨ x ∈ L) ∧ M.length ≤ L.length + 1 := ⟨fun x => by
  rw [h.mem x, List.take_length]
  simp, by have := h.len; simp at this; omega⟩
theorem Putting.last {L M : List Int} {n : Int} (h : Putting L n L.length false M) : (∀ x, x ∈ M ++ [n] ↔ x = n ∨ x ∈ L) ∧ (M ++ [n]).length ≤ L.length + 1 := ⟨fun x => by
  rw [List.mem_append, h.mem x, List.take_length]
  simp
  exact or_comm, by simp; have := h.len; simp at this; omega⟩
end Go.Proofs.Ytmgdodgofpapgaa

namespace Go.Proofs.Ytmgdodgofpapgaa
open Go.RowKit Go.Lib

theorem compact_up (zs : List Int) (hs : zs.Pairwise (· ≤ ·)) : ∀ m, m ≤ zs.length → (compactUpTo zs.toArray m).Pairwise (· < ·) ∧ ∀ x, x ∈ compactUpTo zs.toArray m ↔ x ∈ zs.take m := by
  intro m
  induction m with
  | zero => intro _; exact ⟨by simp [compactUpTo], by simp [compactUpTo]⟩
  | succ m ih =>
    intro hm
    obtain ⟨h1, h2⟩ := ih (by omega)
    have hlt : m < zs.length := by omega
    have hd : zs.toArray[m]! = zs[m] := by simp [hlt]
    have ht : ∀ x, x ∈ zs.take (m + 1) ↔ x ∈ zs.take m ∨ x = zs[m] := take_mem hlt
    have hle : ∀ x ∈ zs.take m, x ≤ zs[m] := fun x hx => by
      obtain ⟨j, hj, rfl⟩ := List.mem_iff_getElem.1 hx
      rw [List.length_take] at hj
      rw [List.getElem_take]
      exact (List.pairwise_iff_getElem.1 hs) j m (by omega) hlt (by omega)
    rw [compactUpTo_succ, hd]
    by_cases hk : keeps zs.toArray m = true
    · rw [if_pos hk]
      refine ⟨?_, fun x => by rw [List.mem_append, List.mem_singleton, h2, ht]⟩
      rw [List.pairwise_append]
      refine ⟨h1, by simp, fun x hx y hy => ?_⟩
      rw [List.mem_singleton.1 hy]
      have hx' := (h2 x).1 hx
      have h3 := hle x hx'
      rcases Nat.eq_zero_or_pos m with h0 | h0
      · subst h0; simp at hx'
      · have hp : zs.toArray[m - 1]! = zs[m - 1] := by simp [show m - 1 < zs.length by omega]
        have hne : zs[m] ≠ zs[m - 1] := by
          have := hk
          unfold keeps at this
          rw [hd, hp] at this
          simp at this
          omega
        have h4 := (List.pairwise_iff_getElem.1 hs) (m - 1) m (by omega) hlt (by omega)
        obtain ⟨j, hj, rfl⟩ := List.mem_iff_getElem.1 hx'
        rw [List.length_take] at hj
        rw [List.getElem_take]
        by_cases e : j = m - 1
        · subst e; omega
        · have h5 := (List.pairwise_iff_getElem.1 hs) j (m - 1) (by omega) (by omega) (by omega)
          omega
    · rw [if_neg hk, List.append_nil]
      refine ⟨h1, fun x => ?_⟩
      rw [h2, ht]
      constructor
      · exact .inl
      · rintro (h | rfl)
        · exact h
        · rcases Nat.eq_zero_or_pos m with h0 | h0
          · subst h0
            exfalso
            apply hk
            unfold keeps
            simp
          · have hp : zs.toArray[m - 1]! = zs[m - 1] := by simp [show m - 1 < zs.length by omega]
            have he : zs[m] = zs[m - 1] := by
              unfold keeps at hk
              rw [hd, hp] at hk
              simp at hk
              exact hk.2
            rw [he]
            exact List.mem_iff_getElem.2 ⟨m - 1, by rw [List.length_take]; omega, by rw [List.getElem_take]⟩
/-- The days in order, each once. -/
def turnsL (ls : List Acta) : List Int := compact ((turnsK ls ls.length).mergeSort (fun x y => decide (x ≤ y)))
theorem turnsL_facts (ls : List Acta) : (turnsL ls).Pairwise (· < ·) ∧ ∀ x, x ∈ turnsL ls ↔ Turn ls x := by
  have hs : ((turnsK ls ls.length).mergeSort (fun x y => decide (x ≤ y))).Pairwise (· ≤ ·) := by
    have := List.pairwise_mergeSort (le := fun x y : Int => decide (x ≤ y)) (fun a b c h1 h2 => by simp at *; omega) (fun a b => by simp; omega) (turnsK ls ls.length)
    exact this.imp (fun h => by simpa using h)
  obtain ⟨h1, h2⟩ := compact_up _ hs _ (Nat.le_refl _)
  refine ⟨h1, fun x => ?_⟩
  unfold turnsL compact
  rw [h2, List.take_length, (List.mergeSort_perm _ _).mem_iff, turnsK_mem]

theorem sort64_any (zs : List Int) (blk cap : Nat) (w : World) (hH : Go.Sort.Holds (Value.int .i64) w blk 0 zs.toArray) (hblk : blk < w.heap.size) (hsz : zs.length < 4611686018427387904) :
    Calls Try.prog 74 #[.slice (some ⟨blk, 0, none⟩) zs.length cap] w fun e w' =>
      e = .returned (.tuple #[]) ∧ ∃ n os, w' = Go.Sort.grow (Go.Sort.putRow (Value.int .i64) (Go.Sort.ahead w n) blk 0 (zs.mergeSort fun x y => decide (x ≤ y)).toArray) os :=
  calls_of_every_depth fun D => AnySM.slices_Sort_int_in Try.sort64 D blk 0 cap zs w hH hblk hsz
theorem compact64_any (zs : List Int) (blk cap : Nat) (w : World) (hH : Go.Sort.Holds (Value.int .i64) w blk 0 zs.toArray) (hsz : zs.length ≤ 9223372036854775807) (hcap : zs.length ≤ cap) :
    Calls Try.prog 75 #[.slice (some ⟨blk, 0, none⟩) zs.length cap] w fun e w' =>
      e = .returned (.slice (some ⟨blk, 0, none⟩) (compact zs).length cap) ∧ ∃ q, w' = Go.Sort.putRow (Value.int .i64) (Go.Sort.ahead w q) blk 0 (compact zs ++ List.replicate (zs.length - (compact zs).length) 0).toArray :=
  AnyG.slices_Compact_int Try.compact64 blk 0 cap zs w hH hsz hcap
end Go.Proofs.Ytmgdodgofpapgaa

namespace Go.Proofs.Ytmgdodgofpapgaa
open Go.RowKit Go.Lib

theorem int_flat : ∀ L : List Int, L.flatMap intCells = L.map (fun x => Value.int .i64 x)
  | [] => rfl
  | x :: L => by rw [List.flatMap_cons, List.map_cons, int_flat L]; rfl
theorem holds_own {w : World} {base g cap : Nat} {L : List Int} (h : w.ownsRow base 2 1 (.slice (some ⟨g, 0, none⟩) L.length cap) L.length (L.flatMap intCells)) : Go.Sort.Holds (Value.int .i64) w g 0 L.toArray := by
  intro j hj
  have hj' : j < L.length := by simpa using hj
  have := own_cell h (j := j) (u := .int .i64 L[j]) (by rw [int_flat, List.getElem?_map, List.getElem?_eq_getElem hj']; rfl)
  have e : L.toArray[j]! = L[j] := by simp [hj']
  rw [Nat.zero_add, e]
  exact this
theorem only_sorted {w : World} {g : Nat} (L : List Int) (n : Nat) : Only g w (Go.Sort.putRow (Value.int .i64) (Go.Sort.ahead w n) g 0 L.toArray) := by
  refine ⟨rfl, rfl, rfl, Nat.le_of_eq (by rw [Go.Sort.size_putRow]; rfl), fun i hi hne => ?_⟩
  unfold Go.Sort.putRow Go.Sort.mapBlock
  have hgi : g ≠ i := fun e => hne (by rw [e])
  show (w.heap.modify g _)[i]? = _
  rw [Array.getElem?_modify, if_neg hgi]
theorem only_grow {w w' : World} {g : Nat} (h : Only g w w') (os : Array Obj) : Only g w (Go.Sort.grow w' os) :=
  ⟨h.os, h.tape, h.output, by rw [Go.Sort.size_grow]; have := h.size; omega, fun i hi hne => (Go.Sort.heap_grow_old w' os (Nat.lt_of_lt_of_le hi h.size)).trans (h.block i hi hne)⟩
theorem holds_row {w : World} {g : Nat} {L T : List Int} (h : Go.Sort.Holds (Value.int .i64) w g 0 (L ++ T).toArray) : Row w g (L.flatMap intCells) := by
  have hl : (L.flatMap intCells).length = L.length := by rw [int_flat, List.length_map]
  refine ⟨fun j u hj => ?_, fun j hj => ?_⟩
  · rw [int_flat, List.getElem?_map] at hj
    cases hx : L[j]? with
    | none => rw [hx] at hj; cases hj
    | some x =>
      rw [hx] at hj
      injection hj with hj
      subst hj
      obtain ⟨hlt, hxe⟩ := List.getElem?_eq_some_iff.1 hx
      have := (h j (by simp; omega)).1
      rw [Nat.zero_add] at this
      rw [this]
      simp [List.getElem?_append_left hlt, hlt, hxe]
  · have := (h j (by simp; omega)).2
    rwa [Nat.zero_add] at this

set_option maxRecDepth 100000 in
set_option maxHeartbeats 4000000 in
theorem turns2_any (ls : List Acta) (w : World) (v : Value) (h : Acts w w.heap.size v ls) (hl : ls.length ≤ 1000) :
    Calls Try.prog 42 #[v] w (RetOwn intCells (turnsL ls) w) := by
  obtain ⟨A, c, rfl, hc, hm, hel⟩ := acts_at h
  have HEL := Lib.hid hel
  clear hel h
  obtain ⟨i0, hi, hz0, hz1, hz2⟩ := info_parts Try.infoI
  have hown0 : (w.alloc (.cells #[.int .i64 0] 2)).ownsRow w.heap.size 2 1 (.slice (some ⟨w.heap.size, 0, none⟩) 1 1) 1 [.int .i64 0] := own_of_blk (C := [.int .i64 0]) (heap_alloc_new w _) rfl rfl rfl (Nat.le_refl _) (by unfold maxLen; decide) (Nat.le_refl _)
  have HOWN0 := Lib.hid hown0
  have HB0 : Hid (Below w.heap.size w (w.alloc (.cells #[.int .i64 0] 2))) := Lib.hid ((Below.refl _ _).alloc (Nat.le_refl _) _)
  unfold RetOwn
  clear hown0
  go_enter Try.func42, Try.ntmps42
  go_wp2
  go_loopw [3, 11] (fun o i wr => ∃ (k g cap : Nat), i = .int .i64 (k : Int) ∧ k ≤ ls.length ∧ o = .slice (some ⟨g, 0, none⟩) (turnsK ls k).length cap ∧ wr.ownsRow w.heap.size 2 1 (.slice (some ⟨g, 0, none⟩) (turnsK ls k).length cap) (turnsK ls k).length ((turnsK ls k).flatMap intCells) ∧ Below w.heap.size w wr) (fun _ i _ => ls.length - (RowKit.intOf i).toNat)
  case atStart => exact ⟨0, w.heap.size, 1, rfl, Nat.zero_le _, rfl, HOWN0.out, HB0.out⟩
  case round =>
    obtain ⟨k, g, cap, rfl, hk, rfl, hown, hb⟩ := hrel
    have HOWN := Lib.hid hown
    have HB := Lib.hid hb
    have hfl := turnsK_len ls k
    clear hown
    by_cases hlt : k < ls.length
    · obtain ⟨b, off, rfl, hblt, hcell⟩ := HEL.out (by omega)
      have hget : ls[k]? = some ls[k] := List.getElem?_eq_getElem hlt
      obtain ⟨pv, c0, c1, c2, hE⟩ := hcell k _ hget
      obtain ⟨pA, pc, rfl, _⟩ := hE
      have x0 := (hb.cell (p := ⟨b, off + k * 3, none⟩) hblt).trans c0
      have x1 := (hb.cell (p := ⟨b, off + k * 3 + 1, none⟩) hblt).trans c1
      have x2 := (hb.cell (p := ⟨b, off + k * 3 + 2, none⟩) hblt).trans c2
      have HT := Lib.hid (turnsK_succ hlt)
      generalize turnsK ls k = Z at *
      clear hcell c0 c1 c2 hget hb
      generalize ls[k] = a at *
      have hg := HOWN.out.lt g rfl
      have HOWN1 := Lib.hid ((HOWN.out.alloc (.cells #[.int .i64 a.beg, .int .i64 a.fin, .slice pA a.pat.length pc] 49)).alloc (.cells #[.int .i64 a.beg, .int .i64 a.fin] 2))
      have HB1 := Lib.hid ((HB.out.alloc HB.out.size (.cells #[.int .i64 a.beg, .int .i64 a.fin, .slice pA a.pat.length pc] 49)).alloc (base_le HB.out.size) (.cells #[.int .i64 a.beg, .int .i64 a.fin] 2))
      have hgs0 : g ≠ wr.heap.size + 1 := by omega
      have HC0 : Hid (((wr.alloc (.cells #[.int .i64 a.beg, .int .i64 a.fin, .slice pA a.pat.length pc] 49)).alloc (.cells #[.int .i64 a.beg, .int .i64 a.fin] 2)).cell? ⟨wr.heap.size + 1, 0, none⟩ = some (.int .i64 a.beg)) := Lib.hid (by simp)
      have HC1 : Hid (((wr.alloc (.cells #[.int .i64 a.beg, .int .i64 a.fin, .slice pA a.pat.length pc] 49)).alloc (.cells #[.int .i64 a.beg, .int .i64 a.fin] 2)).cell? ⟨wr.heap.size + 1, 1, none⟩ = some (.int .i64 a.fin)) := Lib.hid (by simp)
      go_wp2
      generalize wr.heap.size + 1 = gs at *
      go_loopw [3, 21] (fun o i wr => ∃ (j g cap : Nat), i = .int .i64 (j : Int) ∧ j ≤ 2 ∧ o = .slice (some ⟨g, 0, none⟩) (Z ++ ([a.beg, a.fin].take j).filter inD).length cap ∧ wr.ownsRow w.heap.size 2 1 (.slice (some ⟨g, 0, none⟩) (Z ++ ([a.beg, a.fin].take j).filter inD).length cap) (Z ++ ([a.beg, a.fin].take j).filter inD).length ((Z ++ ([a.beg, a.fin].take j).filter inD).flatMap intCells) ∧ wr.cell? ⟨gs, 0, none⟩ = some (.int .i64 a.beg) ∧ wr.cell? ⟨gs, 1, none⟩ = some (.int .i64 a.fin) ∧ g ≠ gs ∧ Below w.heap.size w wr) (fun _ i _ => 2 - (RowKit.intOf i).toNat)
      case atStart => exact ⟨0, g, cap, rfl, by omega, by simp, by simpa using HOWN1.out, HC0.out, HC1.out, hgs0, HB1.out⟩
      case round =>
        obtain ⟨j, g, cap, rfl, hj, rfl, hown, hc0, hc1, hgs, hb⟩ := hrel
        replace HOWN := Lib.hid hown
        replace HB := Lib.hid hb
        replace HC0 := Lib.hid hc0
        replace HC1 := Lib.hid hc1
        have hXl := List.length_filter_le inD ([a.beg, a.fin].take j)
        rw [List.length_take] at hXl
        simp only [List.length_cons, List.length_nil] at hXl
        clear hown hb
        by_cases hj2 : j < 2
        · have hj2' : (j : Int) < 2 := by omega
          obtain ⟨d, hd, x9⟩ : ∃ d, [a.beg, a.fin][j]? = some d ∧ wr.cell? ⟨gs, j, none⟩ = some (.int .i64 d) := by
            rcases (show j = 0 ∨ j = 1 by omega) with rfl | rfl
            · exact ⟨_, rfl, hc0⟩
            · exact ⟨_, rfl, hc1⟩
          have ht : [a.beg, a.fin].take (j + 1) = [a.beg, a.fin].take j ++ [d] := by
            obtain ⟨q1, q2⟩ := List.getElem?_eq_some_iff.1 hd
            rw [List.take_succ_eq_append_getElem q1, q2]
          have HTK := Lib.hid ht
          have HD := Lib.hid (day2_val d wr)
          generalize [a.beg, a.fin].take j = J at *
          have hXl' : (Z ++ J.filter inD).length ≤ 2010 := by rw [List.length_append]; omega
          clear hd ht hc0 hc1
          cases hin : inD d with
          | false =>
            replace HD := Lib.hid (HD.out false hin)
            have HX : Hid (Z ++ ([a.beg, a.fin].take (j + 1)).filter inD = Z ++ J.filter inD) := Lib.hid (by rw [HTK.out, List.filter_append]; simp [hin])
            clear hin
            go_wp2_with (fail)
            refine (HD.out).mono ?_
            rintro e w1 ⟨rfl, q, rfl⟩
            go_wp2
            go_roundw
            case rel => exact ⟨j + 1, g, cap, by go_num, by omega, by rw [HX.out]; simp, by rw [HX.out]; exact own_below HOWN.out (below_drewN (Below.refl wr.heap.size wr) q), HC0.out, HC1.out, hgs, below_drewN HB.out q⟩
            case measure => simp [RowKit.intOf] <;> omega
          | true =>
            replace HD := Lib.hid (HD.out true hin)
            have HX : Hid (Z ++ ([a.beg, a.fin].take (j + 1)).filter inD = (Z ++ J.filter inD) ++ [d]) := Lib.hid (by rw [HTK.out, List.filter_append]; simp [hin])
            generalize Z ++ J.filter inD = X at *
            clear hin
            go_wp2_with (fail)
            refine (HD.out).mono ?_
            rintro e w1 ⟨rfl, q, rfl⟩
            have HOWN2 := Lib.hid (own_below HOWN.out (below_drewN (Below.refl wr.heap.size wr) q))
            have HB2 := Lib.hid (below_drewN HB.out q)
            have HC0' : Hid ((wr.drewN q).cell? ⟨gs, 0, none⟩ = some (.int .i64 a.beg)) := Lib.hid HC0.out
            have HC1' : Hid ((wr.drewN q).cell? ⟨gs, 1, none⟩ = some (.int .i64 a.fin)) := Lib.hid HC1.out
            generalize wr.drewN q = w2 at *
            go_wp2_with (at_builtin; refine wpList_append_own_at _ rfl _ _ 28 rfl w.heap.size 2 i0 (.int .i64 0) 1 8 Try.underlying28 hi hz0 hz1 hz2 rfl (by decide) _ _ _ rfl (HOWN2.out.alloc _) ⟨w2.heap.size, 0, none⟩ 1 1 (intCells d) rfl rfl (cell_one_new _ _ _) (fun u hu => int_one' _ hu) ?c3 ?c4 (base_le HB2.out.size) ?_)
            case c3 => unfold maxLen; omega
            case c4 => omega
            intro v' w9 hown' hgrow hiff hor
            obtain ⟨g', cap', rfl, hdc', hcm'⟩ := own_some hown' hiff
            have hl0 := World.block_lt_of_cell? w2 ⟨gs, 0, none⟩ HC0'.out
            have hgs' : g' ≠ gs := by
              rcases hor with h | h <;> injection h with h
              · exact fun e => hgs (by rw [← e]; exact h.symm)
              · intro e
                have h : g' = w2.heap.size + 1 := h
                have hl0 : gs < w2.heap.size := hl0
                omega
            have hbk : w9.heap[gs]? = w2.heap[gs]? := (hgrow.block gs (by simp; exact Nat.lt_succ_of_lt hl0) (fun e => by injection e with e; exact hgs e.symm)).trans (((Below.refl w2.heap.size w2).alloc (Nat.le_refl _) (.cells #[.int .i64 d] 2)).block gs hl0)
            have HC09 := Lib.hid ((World.cell?_of_block (a := ⟨gs, 0, none⟩) hbk).trans HC0'.out)
            have HC19 := Lib.hid ((World.cell?_of_block (a := ⟨gs, 1, none⟩) hbk).trans HC1'.out)
            have HB9 := Lib.hid ((HB2.out.alloc HB2.out.size (.cells #[.int .i64 d] 2)).grown hgrow (base_le HB2.out.size) (fun j hj => (HOWN2.out.lt j hj).1))
            clear hgrow hiff hor hbk
            go_wp2
            go_roundw
            case rel => exact ⟨j + 1, g', cap', by go_num, by omega, by rw [HX.out, List.length_append, List.length_singleton], by rw [HX.out, flat_snoc, List.length_append]; exact hown', HC09.out, HC19.out, hgs', HB9.out⟩
            case measure => simp [RowKit.intOf] <;> omega
        · have hge : ¬ (j : Int) < 2 := by omega
          have HZ : Hid (turnsK ls (k + 1) = Z ++ ([a.beg, a.fin].take j).filter inD) := Lib.hid (by rw [HT.out, List.take_of_length_le (by simp; omega)])
          clear hj2 hc0 hc1
          go_wp2
          go_roundw
          case rel => exact ⟨k + 1, g, cap, by go_num, by omega, by rw [HZ.out], by rw [HZ.out]; exact HOWN.out, HB.out⟩
          case measure => simp [RowKit.intOf] <;> omega
    · have hge : ¬ (k : Int) < (ls.length : Int) := by omega
      have hk' : k = ls.length := by omega
      subst hk'
      clear hlt
      have hg := HOWN.out.lt g rfl
      have HH := Lib.hid (holds_own HOWN.out)
      have hcap : (turnsK ls ls.length).length ≤ cap := by obtain ⟨_, _, _, h1, _⟩ := blk_of_own HOWN.out; exact h1
      have hcm : cap ≤ maxLen := by obtain ⟨_, _, _, _, h1, _⟩ := blk_of_own HOWN.out; exact h1
      have HTL : Hid (turnsL ls = compact ((turnsK ls ls.length).mergeSort (fun x y => decide (x ≤ y)))) := Lib.hid rfl
      generalize turnsK ls ls.length = Z at *
      go_wp2_with (fail)
      refine (sort64_any Z g cap wr HH.out hg.2 (by omega)).mono ?_
      rintro e w1 ⟨rfl, q, os, rfl⟩
      obtain ⟨S, hS⟩ : ∃ S, S = Z.mergeSort (fun x y => decide (x ≤ y)) := ⟨_, rfl⟩
      have hlen : S.length = Z.length := by rw [hS, List.length_mergeSort]
      rw [← hS] at HTL ⊢
      have hsz : S.toArray.size = Z.toArray.size := by simp [hlen]
      have hH1 : Go.Sort.Holds (Value.int .i64) (Go.Sort.grow (Go.Sort.putRow (Value.int .i64) (Go.Sort.ahead wr q) g 0 S.toArray) os) g 0 S.toArray :=
        Go.Sort.holds_grow _ _ _ _ _ _ (by rw [Go.Sort.size_putRow]; exact hg.2) (Go.Sort.holds_putRow _ (Go.Sort.ahead wr q) g 0 Z.toArray S.toArray HH.out hsz)
      have hO1 := only_grow (only_sorted (w := wr) (g := g) S q) os
      generalize Go.Sort.grow (Go.Sort.putRow (Value.int .i64) (Go.Sort.ahead wr q) g 0 S.toArray) os = w1 at hH1 hO1 ⊢
      have HC := compact64_any S g cap w1 hH1 (by omega) (by omega)
      rw [hlen] at HC
      have hg1 : g < w1.heap.size := Nat.lt_of_lt_of_le hg.2 hO1.size
      have HCC := Lib.hid HC
      have HO1 := Lib.hid hO1
      have HH1 := Lib.hid hH1
      have hcl : (compact S).length ≤ S.length := by unfold compact compactUpTo; rw [List.length_map]; exact Nat.le_trans (List.length_filter_le _ _) (by simp)
      clear hS HC hO1 hH1 hsz
      go_wp2_with (fail)
      refine (HCC.out).mono ?_
      rintro e w2 ⟨rfl, q2, rfl⟩
      have hsz2 : (compact S ++ List.replicate (Z.length - (compact S).length) (0 : Int)).toArray.size = S.toArray.size := by simp; omega
      have hH2 := Go.Sort.holds_putRow (Value.int .i64) (Go.Sort.ahead w1 q2) g 0 S.toArray (compact S ++ List.replicate (Z.length - (compact S).length) (0 : Int)).toArray HH1.out hsz2
      have hO2 := only_sorted (w := w1) (g := g) (compact S ++ List.replicate (Z.length - (compact S).length) (0 : Int)) q2
      generalize Go.Sort.putRow (Value.int .i64) (Go.Sort.ahead w1 q2) g 0 (compact S ++ List.replicate (Z.length - (compact S).length) (0 : Int)).toArray = w2 at hH2 hO2 ⊢
      have HR := Lib.hid (holds_row hH2)
      have HB2 := Lib.hid (HB.out.trans ((only_below HO1.out hg.1 HB.out.size).trans (only_below hO2 hg.1 (by have := HO1.out.size; have := HB.out.size; omega))))
      have hg2 : g < w2.heap.size := Nat.lt_of_lt_of_le hg1 hO2.size
      clear hH2 hO2 hsz2
      go_wp2
      go_ret
      exact ⟨_, rfl, by rw [HTL.out]; exact ⟨_, cap, rfl, by omega, hcm, fun _ => ⟨g, rfl, hg.1, hg2, HR.out⟩⟩, HB2.out⟩
end Go.Proofs.Ytmgdodgofpapgaa

namespace Go.Proofs.Ytmgdodgofpapgaa
open Go.RowKit Go.Lib

theorem force_congr {ls : List Acta} {d d' : Int} (h : ∀ a ∈ ls, inF d a = inF d' a) : forceI ls d = forceI ls d' := by
  unfold forceI
  congr 1
  apply List.filter_congr
  intro k hk
  have hk := List.mem_range.1 hk
  rw [List.getElem?_eq_getElem hk]
  exact h _ (List.getElem_mem hk)
theorem on_congr {S : List Art} {ls : List Acta} {d d' : Int} (h : ∀ a ∈ ls, inF d a = inF d' a) : onO S ls d = onO S ls d' := by
  unfold onO
  rw [force_congr h]
/-- No act begins or ends behind t and not behind d. -/
theorem on_still {S : List Art} {ls : List Acta} {t d : Int} (hok : okActs ls = true) (ht : 0 ≤ t) (htd : t ≤ d) (hd : d ≤ 999) (h : ∀ x, Turn ls x → x ≤ t ∨ d < x) : onO S ls d = onO S ls t := by
  apply on_congr
  intro a ha
  obtain ⟨k, hk⟩ := List.getElem?_of_mem ha
  have ho := okActa_iff.1 (okActs_at hok hk)
  have o1 := ho.b0; have o2 := ho.b1; have o3 := ho.f0; have o4 := ho.f1
  have hb : a.beg ≤ d → a.beg ≤ t := fun hb => by
    rcases h a.beg (.inr ⟨o1, by omega, a, ha, .inl rfl⟩) with h | h <;> omega
  have hf : a.fin ≤ d → a.fin ≤ t := fun hb => by
    rcases h a.fin (.inr ⟨o3, by omega, a, ha, .inr rfl⟩) with h | h <;> omega
  unfold inF
  have e1 : decide (a.beg ≤ d) = decide (a.beg ≤ t) := by rw [decide_eq_decide]; exact ⟨hb, fun h => by omega⟩
  have e2 : decide (d < a.fin) = decide (t < a.fin) := by rw [decide_eq_decide]; exact ⟨fun h => by omega, fun h => by have := hf; omega⟩
  rw [e1, e2]
/-- The turn at a place, and the last day of its interval. -/
def lastAt (T : List Int) (i : Nat) : Int := if i + 1 < T.length then (T[i + 1]?.getD 0) - 1 else 999
theorem turn_bound {ls : List Acta} {x : Int} (h : Turn ls x) : 0 ≤ x ∧ x ≤ 999 := by
  rcases h with rfl | ⟨h1, h2, _⟩ <;> omega
theorem turns_first (ls : List Acta) : (turnsL ls)[0]? = some 0 := by
  obtain ⟨h1, h2⟩ := turnsL_facts ls
  have h0 : (0 : Int) ∈ turnsL ls := (h2 0).2 (.inl rfl)
  obtain ⟨j, hj, hz⟩ := List.mem_iff_getElem.1 h0
  rcases Nat.eq_zero_or_pos j with e | e
  · subst e
    rw [List.getElem?_eq_getElem hj, hz]
  · exfalso
    have := (List.pairwise_iff_getElem.1 h1) 0 j (by omega) hj e
    have h3 := (turn_bound ((h2 _).1 (List.getElem_mem (by omega : 0 < (turnsL ls).length)))).1
    omega
theorem turns_gap {ls : List Acta} {i : Nat} (hi : i < (turnsL ls).length) : (turnsL ls)[i] ≤ lastAt (turnsL ls) i ∧ lastAt (turnsL ls) i ≤ 999 ∧ 0 ≤ (turnsL ls)[i] ∧ ∀ x, Turn ls x → x ≤ (turnsL ls)[i] ∨ lastAt (turnsL ls) i < x := by
  obtain ⟨h1, h2⟩ := turnsL_facts ls
  have hb := turn_bound ((h2 _).1 (List.getElem_mem hi))
  unfold lastAt
  by_cases hn : i + 1 < (turnsL ls).length
  · rw [if_pos hn, List.getElem?_eq_getElem hn, Option.getD_some]
    have hlt := (List.pairwise_iff_getElem.1 h1) i (i + 1) hi hn (by omega)
    have hb2 := turn_bound ((h2 _).1 (List.getElem_mem hn))
    refine ⟨by omega, by omega, hb.1, fun x hx => ?_⟩
    obtain ⟨j, hj, rfl⟩ := List.mem_iff_getElem.1 ((h2 x).2 hx)
    by_cases hji : j ≤ i
    · by_cases e : j = i
      · subst e; left; omega
      · have := (List.pairwise_iff_getElem.1 h1) j i hj hi (by omega)
        left; omega
    · by_cases e : j = i + 1
      · subst e; right; omega
      · have := (List.pairwise_iff_getElem.1 h1) (i + 1) j hn hj (by omega)
        right; omega
  · rw [if_neg hn]
    refine ⟨hb.2, by omega, hb.1, fun x hx => ?_⟩
    obtain ⟨j, hj, rfl⟩ := List.mem_iff_getElem.1 ((h2 x).2 hx)
    by_cases e : j = i
    · subst e; left; omega
    · have := (List.pairwise_iff_getElem.1 h1) j i hj hi (by omega)
      left; omega
/-- The bound to which the intervals are known. -/
def boundAt (T : List Int) (i : Nat) : Int := if i < T.length then T[i]?.getD 0 else 1000
theorem bound_last {T : List Int} {i : Nat} : boundAt T (i + 1) = lastAt T i + 1 := by
  unfold boundAt lastAt
  split <;> omega
structure Cover (S : List Art) (ls : List Acta) (i : Nat) (R : List (Int × Int)) : Prop where
  ok : ∀ r ∈ R, 0 ≤ r.1 ∧ r.1 ≤ r.2 ∧ r.2 < boundAt (turnsL ls) i
  all : ∀ d, 0 ≤ d → d < boundAt (turnsL ls) i → ((∃ r ∈ R, r.1 ≤ d ∧ d ≤ r.2) ↔ onO S ls d = none)
theorem Cover.start (S : List Art) (ls : List Acta) : Cover S ls 0 [] := by
  refine ⟨(fun r hr => by cases hr), fun d h0 h1 => ?_⟩
  exfalso
  have h := turns_first ls
  have hl := (List.getElem?_eq_some_iff.1 h).1
  unfold boundAt at h1
  rw [if_pos hl, h] at h1
  simp at h1
  omega
theorem Cover.skip {S : List Art} {ls : List Acta} {i : Nat} {R : List (Int × Int)} (h : Cover S ls i R) (hok : okActs ls = true) (hi : i < (turnsL ls).length) (ho : (onO S ls (turnsL ls)[i]).isSome = true) : Cover S ls (i + 1) R := by
  obtain ⟨g1, g2, g3, g4⟩ := turns_gap hi
  have hb : boundAt (turnsL ls) i = (turnsL ls)[i] := by unfold boundAt; rw [if_pos hi, List.getElem?_eq_getElem hi]; rfl
  refine ⟨fun r hr => ?_, fun d h0 h1 => ?_⟩
  · have := h.ok r hr
    rw [bound_last]
    rw [hb] at this
    omega
  · rw [bound_last] at h1
    by_cases hd : d < (turnsL ls)[i]
    · exact h.all d h0 (by rw [hb]; exact hd)
    · rw [on_still (S := S) hok g3 (by omega) (by omega) (fun x hx => by rcases g4 x hx with h | h <;> omega)]
      constructor
      · rintro ⟨r, hr, h3, h4⟩
        have := h.ok r hr
        rw [hb] at this
        omega
      · intro e
        rw [e] at ho
        cases ho
theorem Cover.add {S : List Art} {ls : List Acta} {i : Nat} {R : List (Int × Int)} (h : Cover S ls i R) (hok : okActs ls = true) (hi : i < (turnsL ls).length) (ho : (onO S ls (turnsL ls)[i]).isSome = false) : Cover S ls (i + 1) (R ++ [((turnsL ls)[i], lastAt (turnsL ls) i)]) := by
  obtain ⟨g1, g2, g3, g4⟩ := turns_gap hi
  have hb : boundAt (turnsL ls) i = (turnsL ls)[i] := by unfold boundAt; rw [if_pos hi, List.getElem?_eq_getElem hi]; rfl
  refine ⟨fun r hr => ?_, fun d h0 h1 => ?_⟩
  · rw [bound_last]
    rcases List.mem_append.1 hr with hr | hr
    · have := h.ok r hr
      rw [hb] at this
      omega
    · rw [List.mem_singleton.1 hr]
      exact ⟨g3, g1, by omega⟩
  · rw [bound_last] at h1
    by_cases hd : d < (turnsL ls)[i]
    · rw [← h.all d h0 (by rw [hb]; exact hd)]
      constructor
      · rintro ⟨r, hr, h3, h4⟩
        rcases List.mem_append.1 hr with hr | hr
        · exact ⟨r, hr, h3, h4⟩
        · rw [List.mem_singleton.1 hr] at h3
          have h3 : (turnsL ls)[i] ≤ d := h3
          omega
      · rintro ⟨r, hr, h3⟩
        exact ⟨r, List.mem_append_left _ hr, h3⟩
    · rw [on_still (S := S) hok g3 (by omega) (by omega) (fun x hx => by rcases g4 x hx with h | h <;> omega)]
      constructor
      · intro _
        cases e : onO S ls (turnsL ls)[i] with
        | none => rfl
        | some x => rw [e] at ho; cases ho
      · intro _
        exact ⟨_, List.mem_append_right _ (List.mem_singleton.2 rfl), by show (turnsL ls)[i] ≤ d; omega, by show d ≤ lastAt (turnsL ls) i; omega⟩
/-- Two intervals that touch are one. -/
theorem Cover.join {S : List Art} {ls : List Acta} {i : Nat} {R : List (Int × Int)} {x y z : Int} (h : Cover S ls i (R ++ [(x, y)] ++ [(y + 1, z)])) : Cover S ls i (R ++ [(x, z)]) := by
  have hx := h.ok (x, y) (by simp)
  have hy := h.ok (y + 1, z) (by simp)
  simp only at hx hy
  refine ⟨fun r hr => ?_, fun d h0 h1 => ?_⟩
  · rcases List.mem_append.1 hr with hr | hr
    · exact h.ok r (by simp [hr])
    · rw [List.mem_singleton.1 hr]
      exact ⟨hx.1, by show x ≤ z; omega, hy.2.2⟩
  · rw [← h.all d h0 h1]
    constructor
    · rintro ⟨r, hr, h3, h4⟩
      rcases List.mem_append.1 hr with hr | hr
      · exact ⟨r, by simp [hr], h3, h4⟩
      · rw [List.mem_singleton.1 hr] at h3 h4
        have h3 : x ≤ d := h3
        have h4 : d ≤ z := h4
        by_cases hd : d ≤ y
        · exact ⟨(x, y), by simp, h3, hd⟩
        · exact ⟨(y + 1, z), by simp, by show y + 1 ≤ d; omega, h4⟩
    · rintro ⟨r, hr, h3, h4⟩
      rw [List.append_assoc, List.mem_append] at hr
      rcases hr with hr | hr
      · exact ⟨r, by simp [hr], h3, h4⟩
      · refine ⟨(x, z), by simp, ?_⟩
        simp at hr
        rcases hr with rfl | rfl
        · exact ⟨h3, by show d ≤ z; have h4 : d ≤ y := h4; omega⟩
        · exact ⟨by show x ≤ d; have h3 : y + 1 ≤ d := h3; omega, h4⟩
end Go.Proofs.Ytmgdodgofpapgaa

namespace Go.Proofs.Ytmgdodgofpapgaa
open Go.RowKit Go.Lib

structure BRow where
  lo : Int
  hi : Int
  h : Nat
def bCells (x : BRow) : List Value := [.slice (some ⟨x.h, 0, none⟩) 2 2]
def bPair (x : BRow) : Int × Int := (x.lo, x.hi)
structure Rows (base : Nat) (w : World) (g cap : Nat) (L : List BRow) : Prop where
  row : w.ownsRow base 28 1 (.slice (some ⟨g, 0, none⟩) L.length cap) L.length (L.flatMap bCells)
  each : ∀ x ∈ L, Row w x.h [.int .i64 x.lo, .int .i64 x.hi] ∧ base ≤ x.h ∧ x.h < w.heap.size ∧ x.h ≠ g
  ord : L.Pairwise (fun a b => a.h < b.h)
theorem Rows.below {base : Nat} {w w' : World} {g cap : Nat} {L : List BRow} (h : Rows base w g cap L) (hb : Below w.heap.size w w') : Rows base w' g cap L :=
  ⟨own_below h.row hb, fun x hx => by
    obtain ⟨h1, h2, h3, h4⟩ := h.each x hx
    exact ⟨h1.below hb h3, h2, Nat.lt_of_lt_of_le h3 hb.size, h4⟩, h.ord⟩
theorem Rows.push {base : Nat} {W w' : World} {g cap g' cap' : Nat} {L : List BRow} {x : BRow} (h : Rows base W g cap L) (hg : W.grownBy w' (some g)) (hor : g' = g ∨ g' = W.heap.size)
    (hrow : w'.ownsRow base 28 1 (.slice (some ⟨g', 0, none⟩) (L.length + 1) cap') (L.length + 1) (L.flatMap bCells ++ bCells x))
    (hx : Row W x.h [.int .i64 x.lo, .int .i64 x.hi]) (hxb : base ≤ x.h) (hxl : x.h < W.heap.size) (hxg : x.h ≠ g) (hnew : ∀ y ∈ L, y.h < x.h) : Rows base w' g' cap' (L ++ [x]) := by
  have hone : ∀ y : BRow, Row W y.h [.int .i64 y.lo, .int .i64 y.hi] → y.h < W.heap.size → y.h ≠ g → Row w' y.h [.int .i64 y.lo, .int .i64 y.hi] ∧ y.h < w'.heap.size ∧ y.h ≠ g' := fun y h1 h2 h3 =>
    ⟨h1.only h2 h3 hg, Nat.lt_of_lt_of_le h2 hg.size, by rcases hor with e | e <;> omega⟩
  refine ⟨by simpa using hrow, fun y hy => ?_, ?_⟩
  · rcases List.mem_append.1 hy with hy | hy
    · obtain ⟨h1, h2, h3, h4⟩ := h.each y hy
      obtain ⟨q1, q2, q3⟩ := hone y h1 h3 h4
      exact ⟨q1, h2, q2, q3⟩
    · rw [List.mem_singleton.1 hy]
      obtain ⟨q1, q2, q3⟩ := hone x hx hxl hxg
      exact ⟨q1, hxb, q2, q3⟩
  · rw [List.pairwise_append]
    exact ⟨h.ord, by simp, fun a ha b hb => by rw [List.mem_singleton.1 hb]; exact hnew a ha⟩
theorem Rows.turn {base : Nat} {w : World} {g cap : Nat} {L : List BRow} {x : BRow} (h : Rows base w g cap (L ++ [x])) (n : Int) : Rows base (w.setCell ⟨x.h, 1, none⟩ (.int .i64 n)) g cap (L ++ [⟨x.lo, n, x.h⟩]) := by
  obtain ⟨x1, x2, x3, x4⟩ := h.each x (by simp)
  have hO : Only x.h w (w.setCell ⟨x.h, 1, none⟩ (.int .i64 n)) := only_setCell (only_refl _ _) (.inl rfl) _
  have hr := h.row.kept hO (.inr (fun e => by injection e with e; exact x4 e.symm))
  refine ⟨by simpa [bCells] using hr, fun y hy => ?_, ?_⟩
  · rcases List.mem_append.1 hy with hy | hy
    · obtain ⟨h1, h2, h3, h4⟩ := h.each y (List.mem_append_left _ hy)
      have hlt := (List.pairwise_append.1 h.ord).2.2 y hy x (by simp)
      exact ⟨h1.only h3 (by omega) hO, h2, Nat.lt_of_lt_of_le h3 hO.size, h4⟩
    · rw [List.mem_singleton.1 hy]
      exact ⟨x1.set 1 _ (by simp), x2, Nat.lt_of_lt_of_le x3 hO.size, x4⟩
  · have := h.ord
    rw [List.pairwise_append] at this ⊢
    refine ⟨this.1, by simp, fun a ha b hb => ?_⟩
    rw [List.mem_singleton.1 hb]
    exact this.2.2 a ha x (by simp)
def BrokenPost (S : List Art) (ls : List Acta) (w : World) (e : Ending) (w' : World) : Prop :=
  ∃ g cap L, e = .returned (.slice (some ⟨g, 0, none⟩) L.length cap) ∧ Rows w.heap.size w' g cap L ∧ L.length ≤ 1000 ∧ Cover S ls (turnsL ls).length (L.map bPair) ∧ Below w.heap.size w w'
theorem bcell_one {x : BRow} {u : Value} (h : u ∈ bCells x) : u.oneCell' = true := by
  unfold bCells at h
  rw [List.mem_singleton] at h
  subst h
  rfl
theorem Try.infoRow : (Try.prog.info? 28).map (fun i => (i.zero, i.size, i.bytes)) = some (some (.slice none 0 0), 1, 24) := by kernel_rfl
theorem turnsL_len {ls : List Acta} (h : okActs ls = true) : (turnsL ls).length ≤ 17 := by
  have h8 := okActs_len h
  have h1 := turnsK_len ls ls.length
  have h2 : (turnsL ls).length ≤ ((turnsK ls ls.length).mergeSort (fun x y => decide (x ≤ y))).length := by
    unfold turnsL compact compactUpTo
    rw [List.length_map]
    exact Nat.le_trans (List.length_filter_le _ _) (by simp)
  rw [List.length_mergeSort] at h2
  omega

set_option maxRecDepth 100000 in
set_option maxHeartbeats 8000000 in
theorem broken2_any (S : List Art) (ls : List Acta) (w : World) (vs va : Value) (hS : Arts w w.heap.size vs S) (hA : Acts w w.heap.size va ls) (hok : okStat S = true) (hp : okActs ls = true) :
    Calls Try.prog 41 #[vs, va] w (BrokenPost S ls w) := by
  have hl8 := okActs_len hp
  have hT17 := turnsL_len hp
  have HP := Lib.hid hp
  have HB0 : Hid (Below w.heap.size w (w.alloc (.cells #[] 28))) := Lib.hid ((Below.refl _ _).alloc (Nat.le_refl _) _)
  have HT := Lib.hid (turns2_any ls (w.alloc (.cells #[] 28)) va (hA.on HB0.out HB0.out.size) (by omega))
  have HONA := Lib.hid (fun (d : Int) w' (hb : Below w.heap.size w w') => textOn2_any S ls d w' vs va (SlR.on hS (Pl.stays _) hb hb.size) (hA.on hb hb.size) hok hp)
  have hown0 : (w.alloc (.cells #[] 28)).ownsRow w.heap.size 28 1 (.slice (some ⟨w.heap.size, 0, none⟩) 0 0) 0 [] := by simpa using World.ownsRow_made w #[] 0 (Nat.le_refl _) (Nat.zero_le _) rfl
  have HRW0 : Hid (Rows w.heap.size (w.alloc (.cells #[] 28)) w.heap.size 0 []) := Lib.hid ⟨hown0, (fun x hx => by cases hx), List.Pairwise.nil⟩
  obtain ⟨A, c, rfl, _⟩ := hS
  obtain ⟨A2, c2, rfl, _⟩ := acts_at hA
  obtain ⟨i0, hi, hz0, hz1, hz2⟩ := info_parts Try.infoRow
  clear hown0 hA hok hp
  go_enter Try.func41, Try.ntmps41
  go_wp2_with (fail)
  refine (HT.out).mono ?_
  rintro e w1 ⟨vT, rfl, hO1, hb1⟩
  have HRW1 := Lib.hid (HRW0.out.below hb1)
  have HB1 := Lib.hid (HB0.out.trans (hb1.mono HB0.out.size))
  have htf := turns_first ls
  have htl := (List.getElem?_eq_some_iff.1 htf).1
  obtain ⟨AT, cT, rfl, _, hcm, h3⟩ := hO1
  obtain ⟨gT, rfl, hgT0, hgT, hrT⟩ := h3 (fun e => by rw [e] at htl; cases htl)
  have HRT1 := Lib.hid hrT
  clear hb1 h3 hrT htf
  go_wp2
  go_loopw [5, 18] (fun o i wr => ∃ (k g cap : Nat) (L : List BRow), i = .int .i64 (k : Int) ∧ k ≤ (turnsL ls).length ∧ o = .slice (some ⟨g, 0, none⟩) L.length cap ∧ L.length ≤ k ∧ Rows w.heap.size wr g cap L ∧ Cover S ls k (L.map bPair) ∧ Row wr gT ((turnsL ls).flatMap intCells) ∧ gT < wr.heap.size ∧ gT ≠ g ∧ (∀ x ∈ L, gT < x.h) ∧ Below w.heap.size w wr) (fun _ i _ => (turnsL ls).length - (RowKit.intOf i).toNat)
  case atStart => exact ⟨0, w.heap.size, 0, [], rfl, Nat.zero_le _, rfl, Nat.zero_le _, HRW1.out, Cover.start S ls, HRT1.out, hgT, (by intro e; rw [World.size_alloc] at hgT0; omega), (fun x hx => by cases hx), HB1.out⟩
  case round =>
    obtain ⟨k, g, cap, L, rfl, hk, rfl, hLk, hRW, hCV, hRT, hgT, hgTg, hgTx, hb⟩ := hrel
    have HRW := Lib.hid hRW
    have HCV := Lib.hid hCV
    have HRT := Lib.hid hRT
    have HB := Lib.hid hb
    clear hRW hCV hRT hb
    by_cases hlt : k < (turnsL ls).length
    · have x9 : wr.cell? ⟨gT, k, none⟩ = some (.int .i64 (turnsL ls)[k]) := HRT.out.cell k _ (by rw [int_flat, List.getElem?_map, List.getElem?_eq_getElem hlt]; rfl)
      obtain ⟨q1, q2, q3, _⟩ := turns_gap hlt
      have HON := Lib.hid (HONA.out (turnsL ls)[k] wr HB.out)
      have HSK := Lib.hid (fun h => HCV.out.skip HP.out hlt h)
      have HAD := Lib.hid (fun h => HCV.out.add HP.out hlt h)
      by_cases hn : k + 1 < (turnsL ls).length
      · have hn' : (k : Int) + 1 < ((turnsL ls).length : Int) := by omega
        have hla : lastAt (turnsL ls) k = (turnsL ls)[k + 1] - 1 := by unfold lastAt; rw [if_pos hn, List.getElem?_eq_getElem hn]; rfl
        have x8 : wr.cell? ⟨gT, k + 1, none⟩ = some (.int .i64 (lastAt (turnsL ls) k + 1)) := by
          rw [hla]
          have := HRT.out.cell (k + 1) (.int .i64 (turnsL ls)[k + 1]) (by rw [int_flat, List.getElem?_map, List.getElem?_eq_getElem hn]; rfl)
          rw [this]
          congr 2
          omega
        clear hla
        generalize lastAt (turnsL ls) k = la at *
        generalize (turnsL ls)[k] = d at *
        go_wp2_with (fail)
        refine (HON.out).mono ?_
        rintro e w3 ⟨v3, rfl, _, ⟨A3, n3, c3, rfl⟩, hb3⟩
        have HR3 := Lib.hid (HRW.out.below hb3)
        have HB3 := Lib.hid (HB.out.trans (hb3.mono HB.out.size))
        have HRT3 := Lib.hid (HRT.out.below hb3 hgT)
        have hgT3 : gT < w3.heap.size := Nat.lt_of_lt_of_le hgT hb3.size
        clear hb3
        cases hon : (onO S ls d).isSome with
        | true =>
          have HC := Lib.hid (HSK.out hon)
          clear hon
          go_wp2
          go_roundw
          case rel => exact ⟨k + 1, g, cap, L, by go_num, by omega, rfl, by omega, HR3.out, HC.out, HRT3.out, hgT3, hgTg, hgTx, HB3.out⟩
          case measure => simp [RowKit.intOf] <;> omega
        | false =>
          replace HAD := Lib.hid (HAD.out hon)
          have HOW := Lib.hid HR3.out.row
          clear hon HON HSK
          rcases List.eq_nil_or_concat L with hL | ⟨L', x, hL⟩
          · generalize hgl : L.length = n at *
            have hn0 : n = 0 := by rw [← hgl, hL]; rfl
            subst hn0
            clear hL
            have hWz : ((w3.alloc (.cells #[.int .i64 d, .int .i64 (la)] 2)).alloc (.cells #[.slice (some ⟨w3.heap.size, 0, none⟩) 2 2] 28)).heap.size = w3.heap.size + 2 := by simp
            have hWB : Below w3.heap.size w3 ((w3.alloc (.cells #[.int .i64 d, .int .i64 (la)] 2)).alloc (.cells #[.slice (some ⟨w3.heap.size, 0, none⟩) 2 2] 28)) := ((Below.refl _ _).alloc (Nat.le_refl _) _).alloc (by simp) _
            have hWR := (Row.new w3 #[.int .i64 d, .int .i64 (la)] 2).below ((Below.refl _ _).alloc (Nat.le_refl _) (.cells #[.slice (some ⟨w3.heap.size, 0, none⟩) 2 2] 28)) (by simp)
            have HWR := Lib.hid hWR
            have HWB := Lib.hid hWB
            have HWO := Lib.hid ((HOW.out.alloc (.cells #[.int .i64 d, .int .i64 (la)] 2)).alloc (.cells #[.slice (some ⟨w3.heap.size, 0, none⟩) 2 2] 28))
            clear hWR hWB
            have hg3 := HR3.out.row.lt g rfl
            go_wp2_with (at_builtin; refine wpList_append_own_at _ rfl _ _ 41 rfl w.heap.size 28 i0 (.slice none 0 0) 1 24 Try.underlying41 hi hz0 hz1 hz2 rfl (by decide) _ _ _ rfl HWO.out ⟨w3.heap.size + 1, 0, none⟩ 1 1 (bCells ⟨d, la, w3.heap.size⟩) rfl rfl (fun j u hj => new_at2 hj) (fun u hu => bcell_one hu) ?c3 ?c4 (base_le (base_le HB3.out.size)) ?_)
            case c3 => unfold maxLen; omega
            case c4 => omega
            intro v' w9 hown' hgrow hiff hor
            obtain ⟨g', cap', rfl, hdc', hcm'⟩ := own_some hown' (by simpa using hiff)
            have hor' : g' = g ∨ g' = w3.heap.size + 2 := by
              rcases hor with h | h <;> injection h with h
              · exact .inl h
              · first | exact .inr h | exact .inr (by rw [hWz] at h; exact h)
            have HP9 := Lib.hid (Rows.push (x := ⟨d, la, w3.heap.size⟩) (HR3.out.below HWB.out) hgrow (by rw [hWz]; exact hor') (by rw [hgl]; exact hown') HWR.out HB3.out.size (by rw [hWz]; show w3.heap.size < w3.heap.size + 2; omega) (by show w3.heap.size ≠ g; omega) (fun y hy => (HR3.out.each y hy).2.2.1))
            have HRT9 := Lib.hid ((HRT3.out.below HWB.out hgT3).only (by rw [hWz]; omega) hgTg hgrow)
            have HB9 := Lib.hid ((HB3.out.trans (HWB.out.mono HB3.out.size)).grown hgrow (by rw [hWz]; have := HB3.out.size; omega) (fun j hj => by have := HOW.out.lt j hj; exact this.1))
            have hgT9 : gT < w9.heap.size := by have := hgrow.size; rw [hWz] at this; omega
            clear hown' hgrow hiff hor
            go_wp2
            go_roundw
            case rel => exact ⟨k + 1, g', cap', L ++ [⟨d, la, w3.heap.size⟩], by go_num, by omega, by rw [List.length_append, List.length_singleton, hgl], by rw [List.length_append, List.length_singleton, hgl]; omega, HP9.out, by rw [List.map_append]; exact HAD.out, HRT9.out, hgT9, by rcases hor' with e | e <;> omega, (fun y hy => by
              rcases List.mem_append.1 hy with hy | hy
              · exact hgTx y hy
              · rw [List.mem_singleton.1 hy]; exact hgT3), HB9.out⟩
            case measure => simp [RowKit.intOf] <;> omega
          · rw [List.concat_eq_append] at hL
            obtain ⟨e1, e2⟩ := own_cell HR3.out.row (j := L'.length) (u := .slice (some ⟨x.h, 0, none⟩) 2 2) (by rw [hL, List.flatMap_append, List.getElem?_append_right (by rw [flat_len (k := 1) bCells (fun _ => rfl)]; omega), flat_len (k := 1) bCells (fun _ => rfl)]; simp [bCells])
            have e3 := (HR3.out.each x (by rw [hL]; simp)).1.cell 1 _ rfl
            have e4 := (HR3.out.each x (by rw [hL]; simp)).1.free 1 (by simp)
            have HL := Lib.hid hL
            generalize hgl : L.length = n at *
            obtain ⟨m, hm⟩ : ∃ m, m = L'.length := ⟨_, rfl⟩
            rw [← hm] at e1 e2
            have hnm : n = m + 1 := by rw [← hgl, hL, hm]; simp
            subst hnm
            have HM := Lib.hid hm
            clear hL hm
            by_cases hxd : x.hi = d - 1
            · have exd : (x.hi == d - 1) = true := by simp [hxd]
              have HT3 := Lib.hid (Rows.turn (x := x) (by rw [← HL.out]; exact HR3.out) (la))
              have HJ : Hid (Cover S ls (k + 1) ((L' ++ [(⟨x.lo, la, x.h⟩ : BRow)]).map bPair)) := Lib.hid (by
                have := HAD.out
                rw [HL.out, List.map_append] at this
                rw [List.map_append]
                exact Cover.join (y := x.hi) (by rw [show x.hi + 1 = d by omega]; exact this))
              have hxb := (HR3.out.each x (by rw [HL.out]; simp))
              have HB4 := Lib.hid (HB3.out.setCell (p := ⟨x.h, 1, none⟩) hxb.2.1 (.int .i64 (la)))
              have HRT4 := Lib.hid (HRT3.out.far (p := ⟨x.h, 1, none⟩) (.int .i64 (la)) (by have := hgTx x (by rw [HL.out]; simp); show x.h ≠ gT; omega))
              clear hxd
              go_wp2
              go_roundw
              case rel => exact ⟨k + 1, g, cap, L' ++ [⟨x.lo, la, x.h⟩], by go_num, by omega, by simp [HM.out], by have := HM.out; simp; omega, HT3.out, HJ.out, HRT4.out, by simpa using hgT3, hgTg, (fun y hy => by
                rcases List.mem_append.1 hy with hy | hy
                · exact hgTx y (by rw [HL.out]; exact List.mem_append_left _ hy)
                · rw [List.mem_singleton.1 hy]; exact hgTx x (by rw [HL.out]; simp)), HB4.out⟩
              case measure => simp [RowKit.intOf] <;> omega
            · have exd : (x.hi == d - 1) = false := by rw [beq_eq_false_iff_ne]; exact hxd
              clear hxd
              have hWz : ((w3.alloc (.cells #[.int .i64 d, .int .i64 (la)] 2)).alloc (.cells #[.slice (some ⟨w3.heap.size, 0, none⟩) 2 2] 28)).heap.size = w3.heap.size + 2 := by simp
              have hWB : Below w3.heap.size w3 ((w3.alloc (.cells #[.int .i64 d, .int .i64 (la)] 2)).alloc (.cells #[.slice (some ⟨w3.heap.size, 0, none⟩) 2 2] 28)) := ((Below.refl _ _).alloc (Nat.le_refl _) _).alloc (by simp) _
              have hWR := (Row.new w3 #[.int .i64 d, .int .i64 (la)] 2).below ((Below.refl _ _).alloc (Nat.le_refl _) (.cells #[.slice (some ⟨w3.heap.size, 0, none⟩) 2 2] 28)) (by simp)
              have HWR := Lib.hid hWR
              have HWB := Lib.hid hWB
              have HWO := Lib.hid ((HOW.out.alloc (.cells #[.int .i64 d, .int .i64 (la)] 2)).alloc (.cells #[.slice (some ⟨w3.heap.size, 0, none⟩) 2 2] 28))
              clear hWR hWB
              have hg3 := HR3.out.row.lt g rfl
              go_wp2_with (at_builtin; refine wpList_append_own_at _ rfl _ _ 41 rfl w.heap.size 28 i0 (.slice none 0 0) 1 24 Try.underlying41 hi hz0 hz1 hz2 rfl (by decide) _ _ _ rfl HWO.out ⟨w3.heap.size + 1, 0, none⟩ 1 1 (bCells ⟨d, la, w3.heap.size⟩) rfl rfl (fun j u hj => new_at2 hj) (fun u hu => bcell_one hu) ?c3 ?c4 (base_le (base_le HB3.out.size)) ?_)
              case c3 => unfold maxLen; omega
              case c4 => omega
              intro v' w9 hown' hgrow hiff hor
              obtain ⟨g', cap', rfl, hdc', hcm'⟩ := own_some hown' (by simpa using hiff)
              have hor' : g' = g ∨ g' = w3.heap.size + 2 := by
                rcases hor with h | h <;> injection h with h
                · exact .inl h
                · first | exact .inr h | exact .inr (by rw [hWz] at h; exact h)
              have HP9 := Lib.hid (Rows.push (x := ⟨d, la, w3.heap.size⟩) (HR3.out.below HWB.out) hgrow (by rw [hWz]; exact hor') (by rw [hgl]; exact hown') HWR.out HB3.out.size (by rw [hWz]; show w3.heap.size < w3.heap.size + 2; omega) (by show w3.heap.size ≠ g; omega) (fun y hy => (HR3.out.each y hy).2.2.1))
              have HRT9 := Lib.hid ((HRT3.out.below HWB.out hgT3).only (by rw [hWz]; omega) hgTg hgrow)
              have HB9 := Lib.hid ((HB3.out.trans (HWB.out.mono HB3.out.size)).grown hgrow (by rw [hWz]; have := HB3.out.size; omega) (fun j hj => by have := HOW.out.lt j hj; exact this.1))
              have hgT9 : gT < w9.heap.size := by have := hgrow.size; rw [hWz] at this; omega
              clear hown' hgrow hiff hor
              go_wp2
              go_roundw
              case rel => exact ⟨k + 1, g', cap', L ++ [⟨d, la, w3.heap.size⟩], by go_num, by omega, by rw [List.length_append, List.length_singleton, hgl], by rw [List.length_append, List.length_singleton, hgl]; omega, HP9.out, by rw [List.map_append]; exact HAD.out, HRT9.out, hgT9, by rcases hor' with e | e <;> omega, (fun y hy => by
                rcases List.mem_append.1 hy with hy | hy
                · exact hgTx y hy
                · rw [List.mem_singleton.1 hy]; exact hgT3), HB9.out⟩
              case measure => simp [RowKit.intOf] <;> omega
      · have hn' : ¬ (k : Int) + 1 < ((turnsL ls).length : Int) := by omega
        have hla : lastAt (turnsL ls) k = 999 := by unfold lastAt; rw [if_neg hn]
        rw [hla] at HAD q1
        clear q2 hla
        generalize (turnsL ls)[k] = d at *
        go_wp2_with (fail)
        refine (HON.out).mono ?_
        rintro e w3 ⟨v3, rfl, _, ⟨A3, n3, c3, rfl⟩, hb3⟩
        have HR3 := Lib.hid (HRW.out.below hb3)
        have HB3 := Lib.hid (HB.out.trans (hb3.mono HB.out.size))
        have HRT3 := Lib.hid (HRT.out.below hb3 hgT)
        have hgT3 : gT < w3.heap.size := Nat.lt_of_lt_of_le hgT hb3.size
        clear hb3
        cases hon : (onO S ls d).isSome with
        | true =>
          have HC := Lib.hid (HSK.out hon)
          clear hon
          go_wp2
          go_roundw
          case rel => exact ⟨k + 1, g, cap, L, by go_num, by omega, rfl, by omega, HR3.out, HC.out, HRT3.out, hgT3, hgTg, hgTx, HB3.out⟩
          case measure => simp [RowKit.intOf] <;> omega
        | false =>
          replace HAD := Lib.hid (HAD.out hon)
          have HOW := Lib.hid HR3.out.row
          clear hon HON HSK
          rcases List.eq_nil_or_concat L with hL | ⟨L', x, hL⟩
          · generalize hgl : L.length = n at *
            have hn0 : n = 0 := by rw [← hgl, hL]; rfl
            subst hn0
            clear hL
            have hWz : ((w3.alloc (.cells #[.int .i64 d, .int .i64 (999)] 2)).alloc (.cells #[.slice (some ⟨w3.heap.size, 0, none⟩) 2 2] 28)).heap.size = w3.heap.size + 2 := by simp
            have hWB : Below w3.heap.size w3 ((w3.alloc (.cells #[.int .i64 d, .int .i64 (999)] 2)).alloc (.cells #[.slice (some ⟨w3.heap.size, 0, none⟩) 2 2] 28)) := ((Below.refl _ _).alloc (Nat.le_refl _) _).alloc (by simp) _
            have hWR := (Row.new w3 #[.int .i64 d, .int .i64 (999)] 2).below ((Below.refl _ _).alloc (Nat.le_refl _) (.cells #[.slice (some ⟨w3.heap.size, 0, none⟩) 2 2] 28)) (by simp)
            have HWR := Lib.hid hWR
            have HWB := Lib.hid hWB
            have HWO := Lib.hid ((HOW.out.alloc (.cells #[.int .i64 d, .int .i64 (999)] 2)).alloc (.cells #[.slice (some ⟨w3.heap.size, 0, none⟩) 2 2] 28))
            clear hWR hWB
            have hg3 := HR3.out.row.lt g rfl
            go_wp2_with (at_builtin; refine wpList_append_own_at _ rfl _ _ 41 rfl w.heap.size 28 i0 (.slice none 0 0) 1 24 Try.underlying41 hi hz0 hz1 hz2 rfl (by decide) _ _ _ rfl HWO.out ⟨w3.heap.size + 1, 0, none⟩ 1 1 (bCells ⟨d, 999, w3.heap.size⟩) rfl rfl (fun j u hj => new_at2 hj) (fun u hu => bcell_one hu) ?c3 ?c4 (base_le (base_le HB3.out.size)) ?_)
            case c3 => unfold maxLen; omega
            case c4 => omega
            intro v' w9 hown' hgrow hiff hor
            obtain ⟨g', cap', rfl, hdc', hcm'⟩ := own_some hown' (by simpa using hiff)
            have hor' : g' = g ∨ g' = w3.heap.size + 2 := by
              rcases hor with h | h <;> injection h with h
              · exact .inl h
              · first | exact .inr h | exact .inr (by rw [hWz] at h; exact h)
            have HP9 := Lib.hid (Rows.push (x := ⟨d, 999, w3.heap.size⟩) (HR3.out.below HWB.out) hgrow (by rw [hWz]; exact hor') (by rw [hgl]; exact hown') HWR.out HB3.out.size (by rw [hWz]; show w3.heap.size < w3.heap.size + 2; omega) (by show w3.heap.size ≠ g; omega) (fun y hy => (HR3.out.each y hy).2.2.1))
            have HRT9 := Lib.hid ((HRT3.out.below HWB.out hgT3).only (by rw [hWz]; omega) hgTg hgrow)
            have HB9 := Lib.hid ((HB3.out.trans (HWB.out.mono HB3.out.size)).grown hgrow (by rw [hWz]; have := HB3.out.size; omega) (fun j hj => by have := HOW.out.lt j hj; exact this.1))
            have hgT9 : gT < w9.heap.size := by have := hgrow.size; rw [hWz] at this; omega
            clear hown' hgrow hiff hor
            go_wp2
            go_roundw
            case rel => exact ⟨k + 1, g', cap', L ++ [⟨d, 999, w3.heap.size⟩], by go_num, by omega, by rw [List.length_append, List.length_singleton, hgl], by rw [List.length_append, List.length_singleton, hgl]; omega, HP9.out, by rw [List.map_append]; exact HAD.out, HRT9.out, hgT9, by rcases hor' with e | e <;> omega, (fun y hy => by
              rcases List.mem_append.1 hy with hy | hy
              · exact hgTx y hy
              · rw [List.mem_singleton.1 hy]; exact hgT3), HB9.out⟩
            case measure => simp [RowKit.intOf] <;> omega
          · rw [List.concat_eq_append] at hL
            obtain ⟨e1, e2⟩ := own_cell HR3.out.row (j := L'.length) (u := .slice (some ⟨x.h, 0, none⟩) 2 2) (by rw [hL, List.flatMap_append, List.getElem?_append_right (by rw [flat_len (k := 1) bCells (fun _ => rfl)]; omega), flat_len (k := 1) bCells (fun _ => rfl)]; simp [bCells])
            have e3 := (HR3.out.each x (by rw [hL]; simp)).1.cell 1 _ rfl
            have e4 := (HR3.out.each x (by rw [hL]; simp)).1.free 1 (by simp)
            have HL := Lib.hid hL
            generalize hgl : L.length = n at *
            obtain ⟨m, hm⟩ : ∃ m, m = L'.length := ⟨_, rfl⟩
            rw [← hm] at e1 e2
            have hnm : n = m + 1 := by rw [← hgl, hL, hm]; simp
            subst hnm
            have HM := Lib.hid hm
            clear hL hm
            by_cases hxd : x.hi = d - 1
            · have exd : (x.hi == d - 1) = true := by simp [hxd]
              have HT3 := Lib.hid (Rows.turn (x := x) (by rw [← HL.out]; exact HR3.out) (999))
              have HJ : Hid (Cover S ls (k + 1) ((L' ++ [(⟨x.lo, 999, x.h⟩ : BRow)]).map bPair)) := Lib.hid (by
                have := HAD.out
                rw [HL.out, List.map_append] at this
                rw [List.map_append]
                exact Cover.join (y := x.hi) (by rw [show x.hi + 1 = d by omega]; exact this))
              have hxb := (HR3.out.each x (by rw [HL.out]; simp))
              have HB4 := Lib.hid (HB3.out.setCell (p := ⟨x.h, 1, none⟩) hxb.2.1 (.int .i64 (999)))
              have HRT4 := Lib.hid (HRT3.out.far (p := ⟨x.h, 1, none⟩) (.int .i64 (999)) (by have := hgTx x (by rw [HL.out]; simp); show x.h ≠ gT; omega))
              clear hxd
              go_wp2
              go_roundw
              case rel => exact ⟨k + 1, g, cap, L' ++ [⟨x.lo, 999, x.h⟩], by go_num, by omega, by simp [HM.out], by have := HM.out; simp; omega, HT3.out, HJ.out, HRT4.out, by simpa using hgT3, hgTg, (fun y hy => by
                rcases List.mem_append.1 hy with hy | hy
                · exact hgTx y (by rw [HL.out]; exact List.mem_append_left _ hy)
                · rw [List.mem_singleton.1 hy]; exact hgTx x (by rw [HL.out]; simp)), HB4.out⟩
              case measure => simp [RowKit.intOf] <;> omega
            · have exd : (x.hi == d - 1) = false := by rw [beq_eq_false_iff_ne]; exact hxd
              clear hxd
              have hWz : ((w3.alloc (.cells #[.int .i64 d, .int .i64 (999)] 2)).alloc (.cells #[.slice (some ⟨w3.heap.size, 0, none⟩) 2 2] 28)).heap.size = w3.heap.size + 2 := by simp
              have hWB : Below w3.heap.size w3 ((w3.alloc (.cells #[.int .i64 d, .int .i64 (999)] 2)).alloc (.cells #[.slice (some ⟨w3.heap.size, 0, none⟩) 2 2] 28)) := ((Below.refl _ _).alloc (Nat.le_refl _) _).alloc (by simp) _
              have hWR := (Row.new w3 #[.int .i64 d, .int .i64 (999)] 2).below ((Below.refl _ _).alloc (Nat.le_refl _) (.cells #[.slice (some ⟨w3.heap.size, 0, none⟩) 2 2] 28)) (by simp)
              have HWR := Lib.hid hWR
              have HWB := Lib.hid hWB
              have HWO := Lib.hid ((HOW.out.alloc (.cells #[.int .i64 d, .int .i64 (999)] 2)).alloc (.cells #[.slice (some ⟨w3.heap.size, 0, none⟩) 2 2] 28))
              clear hWR hWB
              have hg3 := HR3.out.row.lt g rfl
              go_wp2_with (at_builtin; refine wpList_append_own_at _ rfl _ _ 41 rfl w.heap.size 28 i0 (.slice none 0 0) 1 24 Try.underlying41 hi hz0 hz1 hz2 rfl (by decide) _ _ _ rfl HWO.out ⟨w3.heap.size + 1, 0, none⟩ 1 1 (bCells ⟨d, 999, w3.heap.size⟩) rfl rfl (fun j u hj => new_at2 hj) (fun u hu => bcell_one hu) ?c3 ?c4 (base_le (base_le HB3.out.size)) ?_)
              case c3 => unfold maxLen; omega
              case c4 => omega
              intro v' w9 hown' hgrow hiff hor
              obtain ⟨g', cap', rfl, hdc', hcm'⟩ := own_some hown' (by simpa using hiff)
              have hor' : g' = g ∨ g' = w3.heap.size + 2 := by
                rcases hor with h | h <;> injection h with h
                · exact .inl h
                · first | exact .inr h | exact .inr (by rw [hWz] at h; exact h)
              have HP9 := Lib.hid (Rows.push (x := ⟨d, 999, w3.heap.size⟩) (HR3.out.below HWB.out) hgrow (by rw [hWz]; exact hor') (by rw [hgl]; exact hown') HWR.out HB3.out.size (by rw [hWz]; show w3.heap.size < w3.heap.size + 2; omega) (by show w3.heap.size ≠ g; omega) (fun y hy => (HR3.out.each y hy).2.2.1))
              have HRT9 := Lib.hid ((HRT3.out.below HWB.out hgT3).only (by rw [hWz]; omega) hgTg hgrow)
              have HB9 := Lib.hid ((HB3.out.trans (HWB.out.mono HB3.out.size)).grown hgrow (by rw [hWz]; have := HB3.out.size; omega) (fun j hj => by have := HOW.out.lt j hj; exact this.1))
              have hgT9 : gT < w9.heap.size := by have := hgrow.size; rw [hWz] at this; omega
              clear hown' hgrow hiff hor
              go_wp2
              go_roundw
              case rel => exact ⟨k + 1, g', cap', L ++ [⟨d, 999, w3.heap.size⟩], by go_num, by omega, by rw [List.length_append, List.length_singleton, hgl], by rw [List.length_append, List.length_singleton, hgl]; omega, HP9.out, by rw [List.map_append]; exact HAD.out, HRT9.out, hgT9, by rcases hor' with e | e <;> omega, (fun y hy => by
                rcases List.mem_append.1 hy with hy | hy
                · exact hgTx y hy
                · rw [List.mem_singleton.1 hy]; exact hgT3), HB9.out⟩
              case measure => simp [RowKit.intOf] <;> omega
    · have hge : ¬ (k : Int) < ((turnsL ls).length : Int) := by omega
      have hk' : k = (turnsL ls).length := by omega
      subst hk'
      clear hlt
      go_wp2
      go_ret
      exact ⟨g, cap, L, rfl, HRW.out, by omega, HCV.out, HB.out⟩
end Go.Proofs.Ytmgdodgofpapgaa

namespace Go.Proofs.Ytmgdodgofpapgaa
open Go.RowKit Go.Lib

set_option maxRecDepth 100000 in
set_option maxHeartbeats 2000000 in
theorem equalA_any (xs ys : List Art) (w : World) (v1 v2 : Value) (h1 : Arts w w.heap.size v1 xs) (h2 : Arts w w.heap.size v2 ys) :
    Calls Try.prog 44 #[v1, v2] w (SameLoop xs ys w) := by
  obtain ⟨A1, c1, rfl, hc1, hm1, hel1⟩ := h1
  obtain ⟨A2, c2, rfl, hc2, hm2, hel2⟩ := h2
  unfold maxLen at hm1 hm2
  have HEL1 := Lib.hid hel1
  have HEL2 := Lib.hid hel2
  clear hel1 hel2
  by_cases hl : xs.length = ys.length
  · have hle : ((xs.length : Int) == (ys.length : Int)) = true := by simp [hl]
    have hli : (xs.length : Int) ≤ 9223372036854775807 := by omega
    have hgu : Try.prog.eqGuardType Try.prog.depth 70 = false := by kernel_rfl
    go_enter Try.func44, Try.ntmps44
    go_wp2
    go_loopw [13] (fun i wr => ∃ k : Nat, k ≤ xs.length ∧ i = .int .i64 (k : Int) ∧ xs.take k = ys.take k ∧ Below w.heap.size w wr) (fun i _ => xs.length - (RowKit.intOf i).toNat)
    case atStart => exact ⟨0, Nat.zero_le _, rfl, rfl, Below.refl _ _⟩
    case round =>
      obtain ⟨k, hk, rfl, ht, hb⟩ := hrel
      have HT := Lib.hid ht
      clear ht
      by_cases hlt : k < xs.length
      · obtain ⟨b1, o1, rfl, hb1, hcell1⟩ := HEL1.out (by omega)
        obtain ⟨b2, o2, rfl, hb2, hcell2⟩ := HEL2.out (by omega)
        have g1 : xs[k]? = some xs[k] := List.getElem?_eq_getElem hlt
        have g2 : ys[k]? = some (ys[k]'(by omega)) := List.getElem?_eq_getElem (by omega)
        obtain ⟨d0, d1⟩ := arts_at hcell1 g1
        obtain ⟨e0, e1⟩ := arts_at hcell2 g2
        have x0 := (hb.cell (p := ⟨b1, o1 + k * 2, none⟩) hb1).trans d0
        have x1 := (hb.cell (p := ⟨b1, o1 + k * 2 + 1, none⟩) hb1).trans d1
        have y0 := (hb.cell (p := ⟨b2, o2 + k * 2, none⟩) hb2).trans e0
        have y1 := (hb.cell (p := ⟨b2, o2 + k * 2 + 1, none⟩) hb2).trans e1
        have G1 := Lib.hid g1
        have G2 := Lib.hid g2
        clear hcell1 hcell2 d0 d1 e0 e1 g1 g2
        have hk2 : (k : Int) < (ys.length : Int) := by omega
        generalize xs[k] = x at *
        generalize (ys[k]'(by omega)) = y at *
        go_upto_region 6 with (fail)
        have z0 := fun x : Aft wr => x.cell x0
        have z1 := fun x : Aft wr => x.cell x1
        have z2 := fun x : Aft wr => x.cell y0
        have z3 := fun x : Aft wr => x.cell y1
        clear x0 x1 y0 y1
        by_cases hxy : x = y
        · have heq := equal_art x y true (by simp [hxy])
          have HN := Lib.hid (take_same G1.out G2.out HT.out hxy)
          clear hxy
          refine wp_region_aft (by kernel_rfl) (by kernel_rfl) ?_
          repeat (go_big_quiet_step (fail))
          refine wpQuiet_nil ?_
          rintro _ ⟨y, rfl⟩
          have bY := hb.trans (y.ok.mono hb.size)
          go_wp2
          go_roundw
          case rel => exact ⟨k + 1, by omega, by go_num, HN.out, bY⟩
          case measure => simp [RowKit.intOf]; omega
        · have heq := equal_art x y false (by simp [hxy])
          have HN : Hid (xs ≠ ys) := Lib.hid (fun e => hxy (by
            have a := G1.out
            rw [e, G2.out] at a
            exact (Option.some.inj a).symm))
          clear hxy
          refine wp_region_aft (by kernel_rfl) (by kernel_rfl) ?_
          repeat (go_big_quiet_step (fail))
          refine wpQuiet_nil ?_
          rintro _ ⟨y, rfl⟩
          have bY := hb.trans (y.ok.mono hb.size)
          go_wp2
          go_ret
          exact ⟨false, rfl, by simp [HN.out], bY⟩
      · have hge : ¬ (k : Int) < (xs.length : Int) := by omega
        have HN : Hid (xs = ys) := Lib.hid (by
          have := HT.out
          rw [List.take_of_length_le (by omega), List.take_of_length_le (by omega)] at this
          exact this)
        have hge2 : ¬ (k : Int) < (ys.length : Int) := by omega
        clear hl hk hlt
        go_wp2
        go_ret
        exact ⟨true, rfl, by simp [HN.out], hb⟩
  · have hle : ((xs.length : Int) == (ys.length : Int)) = false := by simp; omega
    have HN : Hid (xs ≠ ys) := Lib.hid (fun e => hl (by rw [e]))
    clear hl hc1 hc2 hm1 hm2 HEL1 HEL2
    generalize xs.length = n1 at hle ⊢
    generalize ys.length = n2 at hle ⊢
    go_enter Try.func44, Try.ntmps44
    go_wp2
    go_ret
    exact ⟨false, rfl, by simp [HN.out], Below.refl _ _⟩


theorem on_ok {S : List Art} {ls : List Acta} {d : Int} {w w' : World} {e : Ending} (h : OnPost S ls d w e w') : ∀ R, onO S ls d = some R → okStat R = true := by
  obtain ⟨v, _, h2, _⟩ := h
  exact fun R hr => (h2 R hr).2
def BrokenDaysPost (S : List Art) (ls : List Acta) (w : World) (e : Ending) (w' : World) : Prop :=
  ∃ g cap L, e = .returned (.tuple #[.slice (some ⟨g, 0, none⟩) L.length cap, .bool true]) ∧ Rows w.heap.size w' g cap L ∧ L.length ≤ 1000 ∧ Cover S ls (turnsL ls).length (L.map bPair) ∧ Below w.heap.size w w'
theorem Rows.less {base b : Nat} {w : World} {g cap : Nat} {L : List BRow} (h : Rows base w g cap L) (hb : b ≤ base) : Rows b w g cap L := by
  obtain ⟨T, hB, hC, hnc, hcm, hbg, hxl⟩ := blk_of_own h.row
  exact ⟨own_of_blk hB hC (by rw [List.take_left' hxl]) hxl hnc hcm (by omega), fun x hx => by
    obtain ⟨h1, h2, h3, h4⟩ := h.each x hx
    exact ⟨h1, by omega, h3, h4⟩, h.ord⟩
set_option maxHeartbeats 2000000 in
theorem brokenDays_any (S : List Art) (ls : List Acta) (w : World) (vs va : Value) (hS : Arts w w.heap.size vs S) (hA : Acts w w.heap.size va ls) (hok : okStat S = true) (hp : okActs ls = true) :
    Calls Try.prog 16 #[vs, va] w (BrokenDaysPost S ls w) := by
  have h1 := stat2_any S w vs hS (textsOk_of hok)
  rw [hok] at h1
  have H1 := Lib.hid h1
  have H2 := Lib.hid (fun w' (hb : Below w.heap.size w w') => acts2_any ls w' va (hA.on hb hb.size) hp)
  have H4 := Lib.hid (fun w' (hb : Below w.heap.size w w') => broken2_any S ls w' vs va (SlR.on hS (Pl.stays _) hb hb.size) (hA.on hb hb.size) hok hp)
  obtain ⟨A, c, rfl, _⟩ := hS
  obtain ⟨A2, c2, rfl, _⟩ := acts_at hA
  clear hA h1
  go_enter Try.func16, Try.ntmps16
  go_wp2_with (fail)
  refine (H1.out).mono ?_
  rintro e w1 ⟨rfl, hb1⟩
  have HB1 := Lib.hid hb1
  clear hb1
  go_wp2_with (fail)
  refine (H2.out w1 HB1.out).mono ?_
  rintro e w2 ⟨rfl, hb2⟩
  have HB2 := Lib.hid (HB1.out.trans (hb2.mono HB1.out.size))
  clear hb2
  go_wp2_with (fail)
  refine (H4.out _ HB2.out).mono ?_
  rintro e w4 ⟨g, cap, L, rfl, hR, hL, hC, hb4⟩
  have HB4 := Lib.hid (HB2.out.trans (hb4.mono HB2.out.size))
  have HR := Lib.hid (hR.less HB2.out.size)
  have HC := Lib.hid hC
  clear hR hC hb4
  go_wp2
  go_ret2
  exact ⟨g, cap, L, rfl, HR.out, hL, HC.out, HB4.out⟩
end Go.Proofs.Ytmgdodgofpapgaa

namespace Go.Proofs.Ytmgdodgofpapgaa
open Go.RowKit Go.Lib

def AllDays (S : List Art) (ls : List Acta) : Prop := ∀ d, 0 ≤ d → d ≤ 999 → onO S ls d ≠ none
theorem bound_end (T : List Int) : boundAt T T.length = 1000 := by unfold boundAt; rw [if_neg (Nat.lt_irrefl _)]
theorem Cover.none {S : List Art} {ls : List Acta} {R : List (Int × Int)} (h : Cover S ls (turnsL ls).length R) : R = [] ↔ AllDays S ls := by
  constructor
  · rintro rfl d h0 h1 e
    obtain ⟨r, hr, _⟩ := (h.all d h0 (by rw [bound_end]; omega)).2 e
    cases hr
  · intro hg
    cases R with
    | nil => rfl
    | cons r R =>
      exfalso
      have h1 := h.ok r List.mem_cons_self
      rw [bound_end] at h1
      exact hg r.1 h1.1 (by omega) ((h.all r.1 h1.1 (by rw [bound_end]; omega)).1 ⟨r, List.mem_cons_self, Int.le_refl _, h1.2.1⟩)
/-- The changed ones of the first k turns behind the first. -/
def Changed (S : List Art) (ls : List Acta) (k : Nat) (D : List Int) : Prop := D.length ≤ k ∧ ∀ d, d ∈ D ↔ d ∈ ((turnsL ls).drop 1).take k ∧ onO S ls (d - 1) ≠ onO S ls d
theorem Changed.start (S : List Art) (ls : List Acta) : Changed S ls 0 [] := ⟨Nat.le_refl _, fun d => by simp⟩
theorem Changed.no {S : List Art} {ls : List Acta} {k : Nat} {D : List Int} {x : Int} (h : Changed S ls k D) (hx : ((turnsL ls).drop 1)[k]? = some x) (e : onO S ls (x - 1) = onO S ls x) : Changed S ls (k + 1) D := by
  obtain ⟨h1, h2⟩ := List.getElem?_eq_some_iff.1 hx
  refine ⟨by have := h.1; omega, fun d => ?_⟩
  rw [take_mem h1, h2, h.2 d]
  constructor
  · rintro ⟨a, b⟩; exact ⟨.inl a, b⟩
  · rintro ⟨a | a, b⟩
    · exact ⟨a, b⟩
    · rw [a] at b; exact absurd e b
theorem Changed.yes {S : List Art} {ls : List Acta} {k : Nat} {D : List Int} {x : Int} (h : Changed S ls k D) (hx : ((turnsL ls).drop 1)[k]? = some x) (e : onO S ls (x - 1) ≠ onO S ls x) : Changed S ls (k + 1) (D ++ [x]) := by
  obtain ⟨h1, h2⟩ := List.getElem?_eq_some_iff.1 hx
  refine ⟨by have := h.1; simp; omega, fun d => ?_⟩
  rw [take_mem h1, h2, List.mem_append, List.mem_singleton, h.2 d]
  constructor
  · rintro (⟨a, b⟩ | a)
    · exact ⟨.inl a, b⟩
    · rw [a]; exact ⟨.inr rfl, e⟩
  · rintro ⟨a | a, b⟩
    · exact .inl ⟨a, b⟩
    · exact .inr a
def ChangePost (S : List Art) (ls : List Acta) (w : World) (e : Ending) (w' : World) : Prop :=
  ((¬ AllDays S ls ∧ e = .returned (.tuple #[.slice none 0 0, .bool false])) ∨
    (AllDays S ls ∧ ∃ v D, e = .returned (.tuple #[v, .bool true]) ∧ OwnL intCells D w.heap.size w' v ∧ Changed S ls ((turnsL ls).length - 1) D)) ∧ Below w.heap.size w w'
theorem tail_pos {ls : List Acta} {k : Nat} {x : Int} (hx : ((turnsL ls).drop 1)[k]? = some x) : 1 ≤ x ∧ x ≤ 999 := by
  rw [List.getElem?_drop] at hx
  obtain ⟨h1, h2⟩ := List.getElem?_eq_some_iff.1 hx
  obtain ⟨f1, f2⟩ := turnsL_facts ls
  have hb := turn_bound ((f2 _).1 (List.getElem_mem h1))
  have h0 := turns_first ls
  obtain ⟨g1, g2⟩ := List.getElem?_eq_some_iff.1 h0
  have := (List.pairwise_iff_getElem.1 f1) 0 (1 + k) g1 h1 (by omega)
  rw [g2] at this
  rw [← h2]
  omega

set_option maxRecDepth 100000 in
set_option maxHeartbeats 4000000 in
theorem changeDays_any (S : List Art) (ls : List Acta) (w : World) (vs va : Value) (hS : Arts w w.heap.size vs S) (hA : Acts w w.heap.size va ls) (hok : okStat S = true) (hp : okActs ls = true) :
    Calls Try.prog 17 #[vs, va] w (ChangePost S ls w) := by
  have hl8 := okActs_len hp
  have hT17 := turnsL_len hp
  have h1 := stat2_any S w vs hS (textsOk_of hok)
  rw [hok] at h1
  have H1 := Lib.hid h1
  have H2 := Lib.hid (fun w' (hb : Below w.heap.size w w') => acts2_any ls w' va (hA.on hb hb.size) hp)
  have H4 := Lib.hid (fun w' (hb : Below w.heap.size w w') => broken2_any S ls w' vs va (SlR.on hS (Pl.stays _) hb hb.size) (hA.on hb hb.size) hok hp)
  have HT := Lib.hid (fun w' (hb : Below w.heap.size w w') => turns2_any ls w' va (hA.on hb hb.size) (by omega))
  have HONA := Lib.hid (fun (d : Int) w' (hb : Below w.heap.size w w') => textOn2_any S ls d w' vs va (SlR.on hS (Pl.stays _) hb hb.size) (hA.on hb hb.size) hok hp)
  obtain ⟨A, c, rfl, _⟩ := hS
  obtain ⟨A2, c2, rfl, _⟩ := acts_at hA
  obtain ⟨i0, hi, hz0, hz1, hz2⟩ := info_parts Try.infoI
  clear hA h1 hok hp
  go_enter Try.func17, Try.ntmps17
  go_wp2_with (fail)
  refine (H1.out).mono ?_
  rintro e w1 ⟨rfl, hb1⟩
  have HB1 := Lib.hid hb1
  clear hb1
  go_wp2_with (fail)
  refine (H2.out w1 HB1.out).mono ?_
  rintro e w2 ⟨rfl, hb2⟩
  have HB2 := Lib.hid (HB1.out.trans (hb2.mono HB1.out.size))
  clear hb2
  go_wp2_with (fail)
  refine (H4.out _ HB2.out).mono ?_
  rintro e w4 ⟨g, cap, L, rfl, hR, hL, hC, hb4⟩
  have HB4 := Lib.hid (HB2.out.trans (hb4.mono HB2.out.size))
  have HC := Lib.hid hC.none
  clear hR hC hb4
  cases L with
  | cons x L =>
    have hpos : (0 : Int) < (((x :: L : List BRow)).length : Int) := by simp <;> omega
    have HN : Hid (¬ AllDays S ls) := Lib.hid (fun h => by have := HC.out.2 h; cases this)
    generalize (x :: L : List BRow).length = n at *
    go_wp2
    go_ret2
    exact ⟨.inl ⟨HN.out, rfl⟩, HB4.out⟩
  | nil =>
    have HY := Lib.hid (HC.out.1 rfl)
    have hpos : ¬ (0 : Int) < ((([] : List BRow)).length : Int) := by simp
    have HT4 := Lib.hid (HT.out _ (HB4.out.alloc HB4.out.size (.cells #[] 2)))
    have hown0 : (w4.alloc (.cells #[] 2)).ownsRow w.heap.size 2 1 (.slice (some ⟨w4.heap.size, 0, none⟩) 0 0) 0 [] := by simpa using World.ownsRow_made w4 #[] 0 HB4.out.size (Nat.zero_le _) rfl
    have HOWN0 := Lib.hid hown0
    have HB5 := Lib.hid (HB4.out.alloc HB4.out.size (.cells #[] 2))
    clear hown0
    go_wp2_with (fail)
    refine (HT4.out).mono ?_
    rintro e w6 ⟨vT, rfl, hO1, hb1⟩
    have HOWN6 := Lib.hid (own_below HOWN0.out hb1)
    have HB6 := Lib.hid (HB5.out.trans (hb1.mono HB5.out.size))
    have htf := turns_first ls
    have htl := (List.getElem?_eq_some_iff.1 htf).1
    obtain ⟨AT, cT, rfl, hlc, hcm, h3⟩ := hO1
    obtain ⟨gT, rfl, hgT0, hgT, hrT⟩ := h3 (fun e => by rw [e] at htl; cases htl)
    have HRT1 := Lib.hid hrT
    have hgT4 : w4.heap.size ≠ gT := by simp at hgT0; omega
    have h1T : (1 : Int) ≤ ((turnsL ls).length : Int) := by omega
    clear hb1 h3 hrT htf hgT0
    by_cases hc1 : cT = 1
    · have hT1 : (turnsL ls).length = 1 := by omega
      have hTz : (((turnsL ls).length - 1 : Nat) : Int) = 0 := by omega
      clear hT1
      go_wp2
      go_loopw [6, 33] (fun o i wr => ∃ (k g cap : Nat) (D : List Int), i = .int .i64 (k : Int) ∧ k ≤ (turnsL ls).length - 1 ∧ o = .slice (some ⟨g, 0, none⟩) D.length cap ∧ wr.ownsRow w.heap.size 2 1 (.slice (some ⟨g, 0, none⟩) D.length cap) D.length (D.flatMap intCells) ∧ Changed S ls k D ∧ Row wr gT ((turnsL ls).flatMap intCells) ∧ gT < wr.heap.size ∧ gT ≠ g ∧ Below w.heap.size w wr) (fun _ i _ => (turnsL ls).length - 1 - (RowKit.intOf i).toNat)
      case atStart => exact ⟨0, w4.heap.size, 0, [], rfl, Nat.zero_le _, rfl, HOWN6.out, Changed.start S ls, HRT1.out, hgT, fun e => hgT4 e.symm, HB6.out⟩
      case round =>
        obtain ⟨k, g, cap, D, rfl, hk, rfl, hown, hCH, hRT, hgT, hgTg, hb⟩ := hrel
        have HOWN := Lib.hid hown
        have HCH := Lib.hid hCH
        have HRT := Lib.hid hRT
        have HB := Lib.hid hb
        have hDl := hCH.1
        clear hown hCH hRT hb
        by_cases hlt : k < (turnsL ls).length - 1
        · exfalso; omega
        · have hge : ¬ (k : Int) < ((turnsL ls).length : Int) - 1 := by omega
          have hge2 : ¬ (k : Int) < (((turnsL ls).length - 1 : Nat) : Int) := by omega
          have hk' : k = (turnsL ls).length - 1 := by omega
          have HF : Hid (Changed S ls ((turnsL ls).length - 1) D) := Lib.hid (by rw [← hk']; exact HCH.out)
          have HOL : Hid (OwnL intCells D w.heap.size wr (.slice (some ⟨g, 0, none⟩) D.length cap)) := Lib.hid (OwnL.of_own intCells (size := 1) (fun _ => rfl) HOWN.out)
          clear hlt hk'
          go_wp2
          go_ret2
          exact ⟨.inr ⟨HY.out, _, D, rfl, HOL.out, HF.out⟩, HB.out⟩
    · go_wp2
      go_loopw [6, 33] (fun o i wr => ∃ (k g cap : Nat) (D : List Int), i = .int .i64 (k : Int) ∧ k ≤ (turnsL ls).length - 1 ∧ o = .slice (some ⟨g, 0, none⟩) D.length cap ∧ wr.ownsRow w.heap.size 2 1 (.slice (some ⟨g, 0, none⟩) D.length cap) D.length (D.flatMap intCells) ∧ Changed S ls k D ∧ Row wr gT ((turnsL ls).flatMap intCells) ∧ gT < wr.heap.size ∧ gT ≠ g ∧ Below w.heap.size w wr) (fun _ i _ => (turnsL ls).length - 1 - (RowKit.intOf i).toNat)
      case atStart => exact ⟨0, w4.heap.size, 0, [], rfl, Nat.zero_le _, rfl, HOWN6.out, Changed.start S ls, HRT1.out, hgT, fun e => hgT4 e.symm, HB6.out⟩
      case round =>
        obtain ⟨k, g, cap, D, rfl, hk, rfl, hown, hCH, hRT, hgT, hgTg, hb⟩ := hrel
        have HOWN := Lib.hid hown
        have HCH := Lib.hid hCH
        have HRT := Lib.hid hRT
        have HB := Lib.hid hb
        have hDl := hCH.1
        clear hown hCH hRT hb
        by_cases hlt : k < (turnsL ls).length - 1
        · have hx : ((turnsL ls).drop 1)[k]? = some (turnsL ls)[1 + k] := by rw [List.getElem?_drop, List.getElem?_eq_getElem (by omega)]
          have x9 : wr.cell? ⟨gT, 1 + k, none⟩ = some (.int .i64 (turnsL ls)[1 + k]) := HRT.out.cell (1 + k) _ (by rw [int_flat, List.getElem?_map, List.getElem?_eq_getElem (by omega)]; rfl)
          obtain ⟨hx1, hx2⟩ := tail_pos hx
          have HNO := Lib.hid (HCH.out.no hx)
          have HYE := Lib.hid (HCH.out.yes hx)
          generalize (turnsL ls)[1 + k]'(by omega) = d at *
          have HO1 := Lib.hid (HONA.out (d - 1) wr HB.out)
          have hlt2 : (k : Int) < (((turnsL ls).length - 1 : Nat) : Int) := by omega
          clear hx
          go_wp2_with (fail)
          refine (HO1.out).mono ?_
          rintro e w7 ⟨v7, rfl, hR7, ⟨A7, n7, c7, rfl⟩, hb7⟩
          have HB7 := Lib.hid (HB.out.trans (hb7.mono HB.out.size))
          have HOWN7 := Lib.hid (own_below HOWN.out hb7)
          have HRT7 := Lib.hid (HRT.out.below hb7 hgT)
          have hgT7 : gT < w7.heap.size := Nat.lt_of_lt_of_le hgT hb7.size
          obtain ⟨R1, hR1⟩ : ∃ R1, onO S ls (d - 1) = some R1 := by
            cases e : onO S ls (d - 1) with
            | none => exact absurd e (HY.out (d - 1) (by omega) (by omega))
            | some R => exact ⟨R, rfl⟩
          obtain ⟨R2, hR2⟩ : ∃ R2, onO S ls d = some R2 := by
            cases e : onO S ls d with
            | none => exact absurd e (HY.out d (by omega) (by omega))
            | some R => exact ⟨R, rfl⟩
          have hA7 := (hR7 R1 hR1).1
          rw [hR1, hR2] at HNO HYE
          rw [hR1]
          have HO2 := Lib.hid (HONA.out d w7 HB7.out)
          have HR2 := Lib.hid hR2
          have HA7 := Lib.hid hA7
          obtain ⟨A8, c8, hv8, _⟩ := hA7
          injection hv8 with q1 q2 q3
          subst q1 q2 q3
          clear hR7 hb7 hR1 hR2
          go_wp2_with (fail)
          refine (HO2.out).mono ?_
          rintro e w8 ⟨v8, rfl, hR8, ⟨A9, n9, c9, rfl⟩, hb8⟩
          have HB8 := Lib.hid (HB7.out.trans (hb8.mono HB7.out.size))
          have HOWN8 := Lib.hid (own_below HOWN7.out hb8)
          have HRT8 := Lib.hid (HRT7.out.below hb8 hgT7)
          have hgT8 : gT < w8.heap.size := Nat.lt_of_lt_of_le hgT7 hb8.size
          have hA8 := (hR8 R2 HR2.out).1
          have HEQ := Lib.hid (equalA_any R1 R2 w8 _ _ ((HA7.out.on hb8).slR (size := 2) (fun _ => rfl)) (hA8.slR (size := 2) (fun _ => rfl)))
          obtain ⟨A10, c10, hv10, _⟩ := hA8
          injection hv10 with q1 q2 q3
          subst q1 q2 q3
          clear hR8 hb8
          go_wp2_with (fail)
          refine (HEQ.out).mono ?_
          rintro e w9 ⟨r, rfl, hr, hb9⟩
          have HB9 := Lib.hid (HB8.out.trans (hb9.mono HB8.out.size))
          have HOWN9 := Lib.hid (own_below HOWN8.out hb9)
          have HRT9 := Lib.hid (HRT8.out.below hb9 hgT8)
          have hgT9 : gT < w9.heap.size := Nat.lt_of_lt_of_le hgT8 hb9.size
          clear hb9
          cases r with
          | true =>
            have HN := Lib.hid (HNO.out (by rw [hr.1 rfl]))
            clear hr
            go_wp2
            go_roundw
            case rel => exact ⟨k + 1, g, cap, D, by go_num, by omega, rfl, HOWN9.out, HN.out, HRT9.out, hgT9, hgTg, HB9.out⟩
            case measure => simp [RowKit.intOf]; omega
          | false =>
            have HN := Lib.hid (HYE.out (fun e => by injection e with e; have := hr.2 e; cases this))
            clear hr
            go_wp2_with (at_builtin; refine wpList_append_own_at _ rfl _ _ 28 rfl w.heap.size 2 i0 (.int .i64 0) 1 8 Try.underlying28 hi hz0 hz1 hz2 rfl (by decide) _ _ _ rfl (HOWN9.out.alloc _) ⟨w9.heap.size, 0, none⟩ 1 1 (intCells d) rfl rfl (cell_one_new _ _ _) (fun u hu => int_one' _ hu) ?c3 ?c4 (base_le HB9.out.size) ?_)
            case c3 => unfold maxLen; omega
            case c4 => omega
            intro v' w10 hown' hgrow hiff hor
            obtain ⟨g', cap', rfl, hdc', hcm'⟩ := own_some hown' (by simpa using hiff)
            have hgg : gT ≠ g' := by
              rcases hor with h | h <;> injection h with h
              · have h : g' = g := h
                omega
              · have h : g' = w9.heap.size + 1 := by first | exact h | (simpa using h)
                omega
            have HRT10 := Lib.hid ((HRT9.out.below ((Below.refl w9.heap.size w9).alloc (Nat.le_refl _) (.cells #[.int .i64 d] 2)) hgT9).only (by simp; omega) hgTg hgrow)
            have HB10 := Lib.hid ((HB9.out.alloc HB9.out.size (.cells #[.int .i64 d] 2)).grown hgrow (base_le HB9.out.size) (fun j hj => (HOWN9.out.lt j hj).1))
            have hgT10 : gT < w10.heap.size := by have := hgrow.size; simp at this; omega
            clear hgrow hiff hor
            go_wp2
            go_roundw
            case rel => exact ⟨k + 1, g', cap', D ++ [d], by go_num, by omega, by rw [List.length_append, List.length_singleton], by rw [flat_snoc, List.length_append]; exact hown', HN.out, HRT10.out, hgT10, hgg, HB10.out⟩
            case measure => simp [RowKit.intOf]; omega
        · have hge : ¬ (k : Int) < ((turnsL ls).length : Int) - 1 := by omega
          have hge2 : ¬ (k : Int) < (((turnsL ls).length - 1 : Nat) : Int) := by omega
          have hk' : k = (turnsL ls).length - 1 := by omega
          have HF : Hid (Changed S ls ((turnsL ls).length - 1) D) := Lib.hid (by rw [← hk']; exact HCH.out)
          have HOL : Hid (OwnL intCells D w.heap.size wr (.slice (some ⟨g, 0, none⟩) D.length cap)) := Lib.hid (OwnL.of_own intCells (size := 1) (fun _ => rfl) HOWN.out)
          clear hlt hk'
          go_wp2
          go_ret2
          exact ⟨.inr ⟨HY.out, _, D, rfl, HOL.out, HF.out⟩, HB.out⟩
end Go.Proofs.Ytmgdodgofpapgaa

namespace Go.Proofs.Ytmgdodgofpapgaa
open Go.RowKit Go.Lib

def AtPost (m : Int) (w : World) (e : Ending) (w' : World) : Prop := ∃ x : Int, 0 ≤ x ∧ x < m ∧ e = .returned (.int .i64 x) ∧ ∃ k, w' = w.drewN k
set_option maxHeartbeats 1000000 in
theorem at_any (A : Option Addr) (n c i : Nat) (m : Int) (w : World) (h : BytesAt w w.heap.size A n) (hi : i ≤ 1000) (hm : 1 ≤ m) (hm2 : m ≤ 65536) :
    Calls Try.prog 18 #[.slice A n c, .int .i64 (i : Int), .int .i64 m] w (AtPost m w) := by
  by_cases h1 : m ≤ 1
  · go_enter Try.func18, Try.ntmps18
    go_wp2
    go_ret
    exact ⟨0, by omega, by omega, rfl, 0, rfl⟩
  · have h1' : ¬ m ≤ 1 := h1
    have h1 : 1 < m := by omega
    by_cases h2 : i < n
    · have h2' : (i : Int) < (n : Int) := by omega
      obtain ⟨b, off, rfl, hlt, hc⟩ := h.2 (by omega)
      obtain ⟨x, hx, x0⟩ := hc i h2
      have hn := h.1
      unfold maxLen at hn
      clear hc h
      go_enter Try.func18, Try.ntmps18
      go_wp2
      go_ret
      exact ⟨(x : Int) % m, Int.emod_nonneg _ (by omega), Int.emod_lt_of_pos _ (by omega), rfl, 0, rfl⟩
    · have h2' : ¬ (i : Int) < (n : Int) := by omega
      clear h
      go_enter Try.func18, Try.ntmps18
      go_wp2
      go_ret
      exact ⟨((i : Int) * 37 + 11) % m, Int.emod_nonneg _ (by omega), Int.emod_lt_of_pos _ (by omega), rfl, 0, rfl⟩
set_option maxHeartbeats 1000000 in
theorem has_any (D : List Int) (d : Int) (w : World) (v : Value) (h : SlR (Pl intCells) 1 w w.heap.size v D) :
    Calls Try.prog 20 #[v, .int .i64 d] w (RetQ (.bool (decide (d ∈ D))) w) := by
  obtain ⟨A, c, rfl, hc, hm, hel⟩ := h
  unfold maxLen at hm
  have hlm : D.length ≤ 9223372036854775807 := by omega
  have HEL := Lib.hid hel
  clear hel
  go_enter Try.func20, Try.ntmps20
  go_wp2
  go_loop [5] (fun i => ∃ k : Nat, k ≤ D.length ∧ i = .int .i64 (k : Int) ∧ (∀ j, (h : j < D.length) → j < k → D[j] ≠ d)) (fun i => D.length - (RowKit.intOf i).toNat)
  case atStart => exact ⟨0, Nat.zero_le _, rfl, fun j _ h => absurd h (Nat.not_lt_zero _)⟩
  case round =>
    obtain ⟨k, hk, rfl, hf⟩ := hrel
    have HF := Lib.hid hf
    clear hf
    by_cases hlt : k < D.length
    · obtain ⟨b, off, rfl, hblt, hcell⟩ := HEL.out (by omega)
      have hget : D[k]? = some D[k] := List.getElem?_eq_getElem hlt
      obtain ⟨us, _, hp, hcc⟩ := hcell k _ hget
      have hp : us = intCells D[k] := hp
      subst hp
      have x0 : w.cell? ⟨b, off + k, none⟩ = some (.int .i64 D[k]) := by have := hcc 0 _ rfl; simpa using this
      have HM := Lib.hid (List.getElem_mem hlt)
      have HN : Hid (D[k] ≠ d → ∀ j, (h : j < D.length) → j < k + 1 → D[j] ≠ d) := Lib.hid (fun hne j hj hjk => by
        by_cases e : j = k
        · subst e; exact hne
        · exact HF.out j hj (by omega))
      clear hcell hget hcc
      generalize D[k] = y at *
      by_cases hq : y = d
      · have hb : (y == d) = true := by simp [hq]
        have HR : Hid (decide (d ∈ D) = true) := Lib.hid (decide_eq_true (by rw [← hq]; exact HM.out))
        clear hq
        go_wp2
        go_ret
        exact ⟨by rw [HR.out]; rfl, 0, rfl⟩
      · have hb : (y == d) = false := by simp [hq]
        have HR := Lib.hid (HN.out hq)
        clear hq
        go_wp2
        go_round
        case rel => exact ⟨k + 1, by omega, by go_num, HR.out⟩
        case measure => simp [RowKit.intOf]; omega
    · have HR : Hid (decide (d ∈ D) = false) := Lib.hid (decide_eq_false (fun h => by
        obtain ⟨j, hj, e⟩ := List.mem_iff_getElem.1 h
        exact HF.out j hj (by omega) e))
      have hge : ¬ (k : Int) < (D.length : Int) := by omega
      go_wp2
      go_ret
      exact ⟨by rw [HR.out]; rfl, 0, rfl⟩
end Go.Proofs.Ytmgdodgofpapgaa

namespace Go.Proofs.Ytmgdodgofpapgaa
open Go.RowKit Go.Lib

def inR (d : Int) (x : BRow) : Bool := decide (x.lo ≤ d) && decide (d ≤ x.hi)
theorem inR_step {L : List BRow} {k : Nat} {x : BRow} {d : Int} (h : L[k]? = some x) : (L.take (k + 1)).any (inR d) = ((L.take k).any (inR d) || inR d x) := by
  obtain ⟨h1, h2⟩ := List.getElem?_eq_some_iff.1 h
  rw [List.take_succ_eq_append_getElem h1, List.any_append, h2]
  simp
theorem inR_all {S : List Art} {ls : List Acta} {L : List BRow} {d : Int} (h : Cover S ls (turnsL ls).length (L.map bPair)) (h0 : 0 ≤ d) (h1 : d ≤ 999) : L.any (inR d) = !(onO S ls d).isSome := by
  have hc := h.all d h0 (by rw [bound_end]; omega)
  rw [Bool.eq_iff_iff]
  rw [List.any_eq_true]
  have e1 : (∃ x, x ∈ L ∧ inR d x = true) ↔ (∃ r ∈ L.map bPair, r.1 ≤ d ∧ d ≤ r.2) := by
    constructor
    · rintro ⟨x, hx, hi⟩
      unfold inR at hi
      rw [Bool.and_eq_true, decide_eq_true_eq, decide_eq_true_eq] at hi
      exact ⟨bPair x, List.mem_map.2 ⟨x, hx, rfl⟩, hi⟩
    · rintro ⟨r, hr, hi⟩
      obtain ⟨x, hx, rfl⟩ := List.mem_map.1 hr
      exact ⟨x, hx, by unfold inR; rw [Bool.and_eq_true, decide_eq_true_eq, decide_eq_true_eq]; exact hi⟩
  rw [e1, hc]
  cases onO S ls d <;> simp
/-- A day is a changed day exactly if its statute is not that of the day before. -/
theorem changed_iff {S : List Art} {ls : List Acta} {D : List Int} {d : Int} (hok : okActs ls = true) (h : Changed S ls ((turnsL ls).length - 1) D) (h0 : 1 ≤ d) (h1 : d ≤ 999) : d ∈ D ↔ onO S ls (d - 1) ≠ onO S ls d := by
  rw [h.2 d]
  constructor
  · exact fun h => h.2
  · intro hne
    refine ⟨?_, hne⟩
    rw [List.take_of_length_le (by rw [List.length_drop]; omega)]
    obtain ⟨f1, f2⟩ := turnsL_facts ls
    have hT : Turn ls d := by
      by_cases ht : Turn ls d
      · exact ht
      · exfalso
        apply hne
        exact (on_still (S := S) (t := d - 1) (d := d) hok (by omega) (by omega) h1 (fun x hx => by
          by_cases e : x = d
          · rw [e] at hx; exact absurd hx ht
          · omega)).symm
    obtain ⟨j, hj, he⟩ := List.mem_iff_getElem.1 ((f2 d).2 hT)
    obtain ⟨z1, z2⟩ := List.getElem?_eq_some_iff.1 (turns_first ls)
    have hj0 : 0 < j := by
      rcases Nat.eq_zero_or_pos j with e | e
      · subst e; omega
      · exact e
    exact List.mem_iff_getElem.2 ⟨j - 1, by rw [List.length_drop]; omega, by rw [List.getElem_drop]; simp only [show 1 + (j - 1) = j by omega]; exact he⟩

theorem some_all {S : List Art} {ls : List Acta} {d : Int} (h : AllDays S ls) (h0 : 0 ≤ d) (h1 : d ≤ 999) : (onO S ls d).isSome = true := by
  cases e : onO S ls d with
  | none => exact absurd e (h d h0 h1)
  | some R => rfl
theorem BytesAt.on {w w' : World} {B B' : Nat} {A : Option Addr} {n : Nat} (h : BytesAt w B A n) (hb : Below B w w') (hB : B ≤ B') : BytesAt w' B' A n := ⟨h.1, fun h0 => by
  obtain ⟨b, off, rfl, hlt, hc⟩ := h.2 h0
  exact ⟨b, off, rfl, by omega, fun i hi => by
    obtain ⟨x, hx, hc'⟩ := hc i hi
    exact ⟨x, hx, (hb.cell (p := ⟨b, off + i, none⟩) hlt).trans hc'⟩⟩⟩

set_option maxRecDepth 100000 in
set_option maxHeartbeats 8000000 in
theorem days_any (A1 : Option Addr) (n1 c1 : Nat) (A2 : Option Addr) (n2 c2 : Nat) (w : World) (hA1 : BytesAt w w.heap.size A1 n1) (hA2 : BytesAt w w.heap.size A2 n2) :
    Calls Try.prog 4 #[.slice A1 n1 c1, .slice A2 n2 c2] w (RetB (.bool true) w) := by
  by_cases hl : n1 ≤ 1048576 ∧ n2 ≤ 1048576
  · have HL := Lib.hid (long_no A1 n1 c1 A2 n2 c2 w hl.1 hl.2)
    have HS := Lib.hid (fun m => acts_any A1 n1 c1 (w.drewN m) hA1)
    have HBW := Lib.hid hA2
    clear hl hA1 hA2
    go_enter Try.func4, Try.ntmps4
    go_wp2_with (fail)
    refine (HL.out).mono ?_
    rintro e w1 ⟨rfl, m1, rfl⟩
    go_wp2_with (fail)
    refine (HS.out m1).mono ?_
    rintro e w2 ⟨v1, v2, S, ls, rfl, hS, hok, hA, hoa, hb⟩
    have HB2 : Hid (Below w.heap.size w w2) := Lib.hid ((below_drewN (Below.refl w.heap.size w) m1).trans hb)
    have HOK := Lib.hid hok
    have HP := Lib.hid hoa
    have HES : Hid (∀ W, Below w2.heap.size w2 W → Arts W W.heap.size v1 S) := Lib.hid (fun W h => (hS.on h).slR (size := 2) (fun _ => rfl))
    have HEA : Hid (∀ W, Below w2.heap.size w2 W → Acts W W.heap.size v2 ls) := Lib.hid (fun W h => hA.on h h.size)
    have HBY : Hid (∀ W, Below w2.heap.size w2 W → BytesAt W W.heap.size A2 n2) := Lib.hid (fun W h => HBW.out.on (HB2.out.trans (h.mono HB2.out.size)) (Nat.le_trans HB2.out.size h.size))
    have H2 : Hid (Below w2.heap.size w2 w2) := Lib.hid (Below.refl _ _)
    obtain ⟨T1, t1, rfl, _⟩ := hS
    obtain ⟨T2, t2, rfl, _⟩ := acts_at hA
    clear hok hoa hA hb
    go_wp2_with (fail)
    refine (brokenDays_any S ls w2 _ _ (HES.out w2 H2.out) (HEA.out w2 H2.out) HOK.out HP.out).mono ?_
    rintro e wb ⟨g, cap, L, rfl, hR, hL, hC, hb⟩
    have HBb := Lib.hid hb
    have HRb := Lib.hid hR
    have HC := Lib.hid hC
    have HN := Lib.hid hC.none
    clear hR hC hb
    go_wp2_with (fail)
    refine (changeDays_any S ls wb _ _ (HES.out wb HBb.out) (HEA.out wb HBb.out) HOK.out HP.out).mono ?_
    rintro e w3 ⟨h, hb⟩
    have HB3 := Lib.hid (HBb.out.trans (hb.mono HBb.out.size))
    have HR3 := Lib.hid (HRb.out.below hb)
    clear hb HRb
    rcases h with ⟨hn, rfl⟩ | ⟨hy, v, D, rfl, hO, hCh⟩
    · have hLl : ((L.length : Int) == 0) = false := by
        rw [beq_eq_false_iff_ne]
        intro e
        apply hn
        apply HN.out.1
        have : L.length = 0 := by omega
        rw [List.eq_nil_of_length_eq_zero this]
        rfl
      clear hn
      go_wp2_with (fail)
      refine ((at_any A2 n2 c2 0 60 w3 (HBY.out w3 HB3.out) (by omega) (by omega) (by omega))).mono ?_
      rintro e w4 ⟨x4, hx0, hx1, rfl, q4, rfl⟩
      have HB4 := Lib.hid (below_drewN HB3.out q4)
      have HR4 := Lib.hid (HR3.out.below (below_drewN (Below.refl w3.heap.size w3) q4))
      skip
      generalize w3.drewN q4 = w4 at *
      go_wp2_with (fail)
      refine ((at_any A2 n2 c2 1 9 w4 (HBY.out w4 HB4.out) (by omega) (by omega) (by omega))).mono ?_
      rintro e w5 ⟨x5, hy0, hy1, rfl, q5, rfl⟩
      have HB5 := Lib.hid (below_drewN HB4.out q5)
      have HR5 := Lib.hid (HR4.out.below (below_drewN (Below.refl w4.heap.size w4) q5))
      skip
      generalize w4.drewN q5 = w5 at *
      by_cases hx5 : x5 = 0
      · have ex5 : (x5 == 0) = true := by simp [hx5]
        have hd1 : (1 : Int) ≤ 999 := by omega
        have hd2 : (999 : Int) ≤ 999 := by omega
        clear hx5
        go_wp2_with (fail)
        refine (TextOn2_any S ls (998) w5 _ _ (HES.out w5 HB5.out) (HEA.out w5 HB5.out) HOK.out HP.out (inB_true (by omega) (by omega))).mono ?_
        rintro e w6 ⟨v6, rfl, hR6, ⟨A6, n6, c6, rfl⟩, hb6⟩
        have HB6 := Lib.hid (HB5.out.trans (hb6.mono HB5.out.size))
        have HR6 := Lib.hid (HR5.out.below hb6)
        have HR6' := Lib.hid hR6
        skip
        clear hb6 hR6
        go_wp2_with (fail)
        refine (TextOn2_any S ls (999) w6 _ _ (HES.out w6 HB6.out) (HEA.out w6 HB6.out) HOK.out HP.out (inB_true (by omega) (by omega))).mono ?_
        rintro e w7 ⟨v7, rfl, hR7, ⟨A7, n7, c7, rfl⟩, hb7⟩
        have HB7 := Lib.hid (HB6.out.trans (hb7.mono HB6.out.size))
        have HR7 := Lib.hid (HR6.out.below hb7)
        have HR7' := Lib.hid hR7
        have HB67 := Lib.hid hb7
        skip
        have HALL := Lib.hid (inR_all HC.out (d := 999) (by omega) hd2)
        clear hb7 hR7
        go_wp2
        go_loop [16, 17] (fun b i => ∃ k : Nat, k ≤ L.length ∧ i = .int .i64 (k : Int) ∧ b = .bool ((L.take k).any (inR (999)))) (fun _ i => L.length - (RowKit.intOf i).toNat)
        case atStart => exact ⟨0, Nat.zero_le _, rfl, by simp⟩
        case round =>
          obtain ⟨k, hk, rfl, rfl⟩ := hrel
          by_cases hlt : k < L.length
          · have hget : L[k]? = some L[k] := List.getElem?_eq_getElem hlt
            have hst := inR_step (d := 999) hget
            obtain ⟨e1, _⟩ := own_cell HR7.out.row (j := k) (u := .slice (some ⟨L[k].h, 0, none⟩) 2 2) (by have := flat_at bCells (size := 1) (fun _ => rfl) L k L[k] 0 _ hget rfl (by omega); simpa using this)
            obtain ⟨hrow, _⟩ := HR7.out.each L[k] (List.getElem_mem hlt)
            have e2 := hrow.cell 0 _ rfl
            have e3 := hrow.cell 1 _ rfl
            have HST := Lib.hid hst
            have HIN : Hid (inR (999) L[k] = (decide (L[k].lo ≤ 999) && decide (999 ≤ L[k].hi))) := Lib.hid rfl
            clear hget hst hrow
            generalize L[k] = x at *
            generalize (L.take k).any (inR (999)) = r at *
            have hkl : (k : Int) < (L.length : Int) := by omega
            cases r with
            | true =>
              go_wp2
              go_round
              case rel => exact ⟨k + 1, by omega, by go_num, by rw [HST.out]; rfl⟩
              case measure => simp [RowKit.intOf]; omega
            | false =>
              by_cases g1 : x.lo ≤ 999
              · by_cases g2 : 999 ≤ x.hi
                · have HX : Hid (inR (999) x = true) := Lib.hid (by rw [HIN.out]; simp [g1, g2])
                  have g1' : decide (x.lo ≤ 999) = true := by simp [g1]
                  have g2' : decide (999 ≤ x.hi) = true := by simp [g2]
                  go_wp2
                  go_round
                  case rel => exact ⟨k + 1, by omega, by go_num, by rw [HST.out, HX.out]; rfl⟩
                  case measure => simp [RowKit.intOf]; omega
                · have HX : Hid (inR (999) x = false) := Lib.hid (by rw [HIN.out]; simp [g2])
                  have g1' : decide (x.lo ≤ 999) = true := by simp [g1]
                  have g2' : decide (999 ≤ x.hi) = false := by simp [g2]
                  go_wp2
                  go_round
                  case rel => exact ⟨k + 1, by omega, by go_num, by rw [HST.out, HX.out]; rfl⟩
                  case measure => simp [RowKit.intOf]; omega
              · have HX : Hid (inR (999) x = false) := Lib.hid (by rw [HIN.out]; simp [g1])
                have g1' : decide (x.lo ≤ 999) = false := by simp [g1]
                go_wp2
                go_round
                case rel => exact ⟨k + 1, by omega, by go_num, by rw [HST.out, HX.out]; rfl⟩
                case measure => simp [RowKit.intOf]; omega
          · have hkl : ¬ (k : Int) < (L.length : Int) := by omega
            rw [List.take_of_length_le (by omega), HALL.out]
            have hxx : ∀ b : Bool, ((!b) == b) = false := by decide
            generalize hos : (onO S ls (999)).isSome = r4
            cases r4 with
            | true => 
              go_wp2
              go_ret
              exact ⟨rfl, HB2.out.trans (HB7.out.mono HB2.out.size)⟩
            | false =>
              (go_wp2; go_ret; exact ⟨rfl, HB2.out.trans (HB7.out.mono HB2.out.size)⟩)
      · have ex5 : (x5 == 0) = false := by simp [hx5]
        have hd1 : (1 : Int) ≤ 1 + x4 := by omega
        have hd2 : (1 : Int) + x4 ≤ 999 := by omega
        clear hx5
        go_wp2_with (fail)
        refine (TextOn2_any S ls (1 + x4 - 1) w5 _ _ (HES.out w5 HB5.out) (HEA.out w5 HB5.out) HOK.out HP.out (inB_true (by omega) (by omega))).mono ?_
        rintro e w6 ⟨v6, rfl, hR6, ⟨A6, n6, c6, rfl⟩, hb6⟩
        have HB6 := Lib.hid (HB5.out.trans (hb6.mono HB5.out.size))
        have HR6 := Lib.hid (HR5.out.below hb6)
        have HR6' := Lib.hid hR6
        skip
        clear hb6 hR6
        go_wp2_with (fail)
        refine (TextOn2_any S ls (1 + x4) w6 _ _ (HES.out w6 HB6.out) (HEA.out w6 HB6.out) HOK.out HP.out (inB_true (by omega) (by omega))).mono ?_
        rintro e w7 ⟨v7, rfl, hR7, ⟨A7, n7, c7, rfl⟩, hb7⟩
        have HB7 := Lib.hid (HB6.out.trans (hb7.mono HB6.out.size))
        have HR7 := Lib.hid (HR6.out.below hb7)
        have HR7' := Lib.hid hR7
        have HB67 := Lib.hid hb7
        skip
        have HALL := Lib.hid (inR_all HC.out (d := 1 + x4) (by omega) hd2)
        clear hb7 hR7
        go_wp2
        go_loop [16, 17] (fun b i => ∃ k : Nat, k ≤ L.length ∧ i = .int .i64 (k : Int) ∧ b = .bool ((L.take k).any (inR (1 + x4)))) (fun _ i => L.length - (RowKit.intOf i).toNat)
        case atStart => exact ⟨0, Nat.zero_le _, rfl, by simp⟩
        case round =>
          obtain ⟨k, hk, rfl, rfl⟩ := hrel
          by_cases hlt : k < L.length
          · have hget : L[k]? = some L[k] := List.getElem?_eq_getElem hlt
            have hst := inR_step (d := 1 + x4) hget
            obtain ⟨e1, _⟩ := own_cell HR7.out.row (j := k) (u := .slice (some ⟨L[k].h, 0, none⟩) 2 2) (by have := flat_at bCells (size := 1) (fun _ => rfl) L k L[k] 0 _ hget rfl (by omega); simpa using this)
            obtain ⟨hrow, _⟩ := HR7.out.each L[k] (List.getElem_mem hlt)
            have e2 := hrow.cell 0 _ rfl
            have e3 := hrow.cell 1 _ rfl
            have HST := Lib.hid hst
            have HIN : Hid (inR (1 + x4) L[k] = (decide (L[k].lo ≤ 1 + x4) && decide (1 + x4 ≤ L[k].hi))) := Lib.hid rfl
            clear hget hst hrow
            generalize L[k] = x at *
            generalize (L.take k).any (inR (1 + x4)) = r at *
            have hkl : (k : Int) < (L.length : Int) := by omega
            cases r with
            | true =>
              go_wp2
              go_round
              case rel => exact ⟨k + 1, by omega, by go_num, by rw [HST.out]; rfl⟩
              case measure => simp [RowKit.intOf]; omega
            | false =>
              by_cases g1 : x.lo ≤ 1 + x4
              · by_cases g2 : 1 + x4 ≤ x.hi
                · have HX : Hid (inR (1 + x4) x = true) := Lib.hid (by rw [HIN.out]; simp [g1, g2])
                  have g1' : decide (x.lo ≤ 1 + x4) = true := by simp [g1]
                  have g2' : decide (1 + x4 ≤ x.hi) = true := by simp [g2]
                  go_wp2
                  go_round
                  case rel => exact ⟨k + 1, by omega, by go_num, by rw [HST.out, HX.out]; rfl⟩
                  case measure => simp [RowKit.intOf]; omega
                · have HX : Hid (inR (1 + x4) x = false) := Lib.hid (by rw [HIN.out]; simp [g2])
                  have g1' : decide (x.lo ≤ 1 + x4) = true := by simp [g1]
                  have g2' : decide (1 + x4 ≤ x.hi) = false := by simp [g2]
                  go_wp2
                  go_round
                  case rel => exact ⟨k + 1, by omega, by go_num, by rw [HST.out, HX.out]; rfl⟩
                  case measure => simp [RowKit.intOf]; omega
              · have HX : Hid (inR (1 + x4) x = false) := Lib.hid (by rw [HIN.out]; simp [g1])
                have g1' : decide (x.lo ≤ 1 + x4) = false := by simp [g1]
                go_wp2
                go_round
                case rel => exact ⟨k + 1, by omega, by go_num, by rw [HST.out, HX.out]; rfl⟩
                case measure => simp [RowKit.intOf]; omega
          · have hkl : ¬ (k : Int) < (L.length : Int) := by omega
            rw [List.take_of_length_le (by omega), HALL.out]
            have hxx : ∀ b : Bool, ((!b) == b) = false := by decide
            generalize hos : (onO S ls (1 + x4)).isSome = r4
            cases r4 with
            | true => 
              go_wp2
              go_ret
              exact ⟨rfl, HB2.out.trans (HB7.out.mono HB2.out.size)⟩
            | false =>
              (go_wp2; go_ret; exact ⟨rfl, HB2.out.trans (HB7.out.mono HB2.out.size)⟩)
    · have HY := Lib.hid hy
      have HCH := Lib.hid hCh
      have O3 := Lib.hid hO
      have hLl : ((L.length : Int) == 0) = true := by
        have := HN.out.2 hy
        rw [List.map_eq_nil_iff] at this
        rw [this]
        rfl
      obtain ⟨q3', p3', rfl, _⟩ := hO
      clear hy hCh
      go_wp2_with (fail)
      refine ((at_any A2 n2 c2 0 60 w3 (HBY.out w3 HB3.out) (by omega) (by omega) (by omega))).mono ?_
      rintro e w4 ⟨x4, hx0, hx1, rfl, q4, rfl⟩
      have HB4 := Lib.hid (below_drewN HB3.out q4)
      have HR4 := Lib.hid (HR3.out.below (below_drewN (Below.refl w3.heap.size w3) q4))
      replace O3 := Lib.hid (O3.out.on (below_drewN (Below.refl w3.heap.size w3) q4))
      generalize w3.drewN q4 = w4 at *
      go_wp2_with (fail)
      refine ((at_any A2 n2 c2 1 9 w4 (HBY.out w4 HB4.out) (by omega) (by omega) (by omega))).mono ?_
      rintro e w5 ⟨x5, hy0, hy1, rfl, q5, rfl⟩
      have HB5 := Lib.hid (below_drewN HB4.out q5)
      have HR5 := Lib.hid (HR4.out.below (below_drewN (Below.refl w4.heap.size w4) q5))
      replace O3 := Lib.hid (O3.out.on (below_drewN (Below.refl w4.heap.size w4) q5))
      generalize w4.drewN q5 = w5 at *
      by_cases hx5 : x5 = 0
      · have ex5 : (x5 == 0) = true := by simp [hx5]
        have hd1 : (1 : Int) ≤ 999 := by omega
        have hd2 : (999 : Int) ≤ 999 := by omega
        clear hx5
        go_wp2_with (fail)
        refine (TextOn2_any S ls (998) w5 _ _ (HES.out w5 HB5.out) (HEA.out w5 HB5.out) HOK.out HP.out (inB_true (by omega) (by omega))).mono ?_
        rintro e w6 ⟨v6, rfl, hR6, ⟨A6, n6, c6, rfl⟩, hb6⟩
        have HB6 := Lib.hid (HB5.out.trans (hb6.mono HB5.out.size))
        have HR6 := Lib.hid (HR5.out.below hb6)
        have HR6' := Lib.hid hR6
        replace O3 := Lib.hid (O3.out.on hb6)
        clear hb6 hR6
        go_wp2_with (fail)
        refine (TextOn2_any S ls (999) w6 _ _ (HES.out w6 HB6.out) (HEA.out w6 HB6.out) HOK.out HP.out (inB_true (by omega) (by omega))).mono ?_
        rintro e w7 ⟨v7, rfl, hR7, ⟨A7, n7, c7, rfl⟩, hb7⟩
        have HB7 := Lib.hid (HB6.out.trans (hb7.mono HB6.out.size))
        have HR7 := Lib.hid (HR6.out.below hb7)
        have HR7' := Lib.hid hR7
        have HB67 := Lib.hid hb7
        replace O3 := Lib.hid (O3.out.on hb7)
        have HALL := Lib.hid (inR_all HC.out (d := 999) (by omega) hd2)
        clear hb7 hR7
        go_wp2
        go_loop [16, 17] (fun b i => ∃ k : Nat, k ≤ L.length ∧ i = .int .i64 (k : Int) ∧ b = .bool ((L.take k).any (inR (999)))) (fun _ i => L.length - (RowKit.intOf i).toNat)
        case atStart => exact ⟨0, Nat.zero_le _, rfl, by simp⟩
        case round =>
          obtain ⟨k, hk, rfl, rfl⟩ := hrel
          by_cases hlt : k < L.length
          · have hget : L[k]? = some L[k] := List.getElem?_eq_getElem hlt
            have hst := inR_step (d := 999) hget
            obtain ⟨e1, _⟩ := own_cell HR7.out.row (j := k) (u := .slice (some ⟨L[k].h, 0, none⟩) 2 2) (by have := flat_at bCells (size := 1) (fun _ => rfl) L k L[k] 0 _ hget rfl (by omega); simpa using this)
            obtain ⟨hrow, _⟩ := HR7.out.each L[k] (List.getElem_mem hlt)
            have e2 := hrow.cell 0 _ rfl
            have e3 := hrow.cell 1 _ rfl
            have HST := Lib.hid hst
            have HIN : Hid (inR (999) L[k] = (decide (L[k].lo ≤ 999) && decide (999 ≤ L[k].hi))) := Lib.hid rfl
            clear hget hst hrow
            generalize L[k] = x at *
            generalize (L.take k).any (inR (999)) = r at *
            have hkl : (k : Int) < (L.length : Int) := by omega
            cases r with
            | true =>
              go_wp2
              go_round
              case rel => exact ⟨k + 1, by omega, by go_num, by rw [HST.out]; rfl⟩
              case measure => simp [RowKit.intOf]; omega
            | false =>
              by_cases g1 : x.lo ≤ 999
              · by_cases g2 : 999 ≤ x.hi
                · have HX : Hid (inR (999) x = true) := Lib.hid (by rw [HIN.out]; simp [g1, g2])
                  have g1' : decide (x.lo ≤ 999) = true := by simp [g1]
                  have g2' : decide (999 ≤ x.hi) = true := by simp [g2]
                  go_wp2
                  go_round
                  case rel => exact ⟨k + 1, by omega, by go_num, by rw [HST.out, HX.out]; rfl⟩
                  case measure => simp [RowKit.intOf]; omega
                · have HX : Hid (inR (999) x = false) := Lib.hid (by rw [HIN.out]; simp [g2])
                  have g1' : decide (x.lo ≤ 999) = true := by simp [g1]
                  have g2' : decide (999 ≤ x.hi) = false := by simp [g2]
                  go_wp2
                  go_round
                  case rel => exact ⟨k + 1, by omega, by go_num, by rw [HST.out, HX.out]; rfl⟩
                  case measure => simp [RowKit.intOf]; omega
              · have HX : Hid (inR (999) x = false) := Lib.hid (by rw [HIN.out]; simp [g1])
                have g1' : decide (x.lo ≤ 999) = false := by simp [g1]
                go_wp2
                go_round
                case rel => exact ⟨k + 1, by omega, by go_num, by rw [HST.out, HX.out]; rfl⟩
                case measure => simp [RowKit.intOf]; omega
          · have hkl : ¬ (k : Int) < (L.length : Int) := by omega
            rw [List.take_of_length_le (by omega), HALL.out]
            have hxx : ∀ b : Bool, ((!b) == b) = false := by decide
            generalize hos : (onO S ls (999)).isSome = r4
            cases r4 with
            | true => 
              obtain ⟨R1, hR1⟩ : ∃ R1, onO S ls (998) = some R1 := by
                cases h : onO S ls (998) with
                | none => exact absurd h (HY.out _ (by omega) (by omega))
                | some R => exact ⟨R, rfl⟩
              obtain ⟨R2, hR2⟩ : ∃ R2, onO S ls (999) = some R2 := by
                cases h : onO S ls (999) with
                | none => exact absurd h (HY.out _ (by omega) (by omega))
                | some R => exact ⟨R, rfl⟩
              have hCI := changed_iff HP.out HCH.out (d := 999) hd1 hd2
              rw [show (999 : Int) - 1 = 998 by omega, hR1, hR2] at hCI
              have hO6 := (HR6'.out R1 hR1).1
              have hO7 := (HR7'.out R2 hR2).1
              rw [hR1]
              have HHA := Lib.hid (has_any D (999) w7 _ (O3.out.slR (size := 1) (fun _ => rfl)))
              have HO6 := Lib.hid (hO6.on HB67.out)
              have HO7 := Lib.hid hO7
              have HCI := Lib.hid hCI
              obtain ⟨q6, p6, hv6, _⟩ := hO6
              injection hv6 with y1 y2 y3
              subst y1 y2 y3
              obtain ⟨q7, p7, hv7, _⟩ := hO7
              injection hv7 with y1 y2 y3
              subst y1 y2 y3
              clear hCI hR1 hR2
              obtain ⟨r, hr⟩ : ∃ r, decide ((999 : Int) ∈ D) = r := ⟨_, rfl⟩
              rw [hr] at HHA
              have HR := Lib.hid hr
              clear hr
              go_wp2_with (fail)
              refine (HHA.out).mono ?_
              rintro e w8 ⟨rfl, q8, rfl⟩
              have HB8 := Lib.hid (below_drewN HB7.out q8)
              have HSA := Lib.hid (sameArts_any R1 R2 (w7.drewN q8) _ _ ((HO6.out.on (below_drewN (Below.refl w7.heap.size w7) q8)).slR (size := 2) (fun _ => rfl)) ((HO7.out.on (below_drewN (Below.refl w7.heap.size w7) q8)).slR (size := 2) (fun _ => rfl)))
              go_wp2_with (fail)
              refine (HSA.out).mono ?_
              rintro e w9 ⟨r2, rfl, hr2, hb9⟩
              have HB9 := Lib.hid (HB8.out.trans (hb9.mono HB8.out.size))
              have hne : r2 = !r := by
                have h1 := HR.out
                have h2 := HCI.out
                cases r with
                | true =>
                  have h3 := h2.1 (of_decide_eq_true h1)
                  cases r2 with
                  | false => rfl
                  | true => exact absurd (by rw [hr2.1 rfl]) h3
                | false =>
                  cases r2 with
                  | true => rfl
                  | false =>
                    exfalso
                    have h3 := of_decide_eq_false h1
                    apply h3
                    apply h2.2
                    intro h4
                    injection h4 with h4
                    have := hr2.2 h4
                    cases this
              subst hne
              clear hr2 hb9
              cases r with
              | true =>
                go_wp2
                go_ret
                exact ⟨rfl, HB2.out.trans (HB9.out.mono HB2.out.size)⟩
              | false =>
                go_wp2
                go_ret
                exact ⟨rfl, HB2.out.trans (HB9.out.mono HB2.out.size)⟩
            | false =>
              (exfalso; rw [some_all HY.out (by omega) (by omega)] at hos; cases hos)
      · have ex5 : (x5 == 0) = false := by simp [hx5]
        have hd1 : (1 : Int) ≤ 1 + x4 := by omega
        have hd2 : (1 : Int) + x4 ≤ 999 := by omega
        clear hx5
        go_wp2_with (fail)
        refine (TextOn2_any S ls (1 + x4 - 1) w5 _ _ (HES.out w5 HB5.out) (HEA.out w5 HB5.out) HOK.out HP.out (inB_true (by omega) (by omega))).mono ?_
        rintro e w6 ⟨v6, rfl, hR6, ⟨A6, n6, c6, rfl⟩, hb6⟩
        have HB6 := Lib.hid (HB5.out.trans (hb6.mono HB5.out.size))
        have HR6 := Lib.hid (HR5.out.below hb6)
        have HR6' := Lib.hid hR6
        replace O3 := Lib.hid (O3.out.on hb6)
        clear hb6 hR6
        go_wp2_with (fail)
        refine (TextOn2_any S ls (1 + x4) w6 _ _ (HES.out w6 HB6.out) (HEA.out w6 HB6.out) HOK.out HP.out (inB_true (by omega) (by omega))).mono ?_
        rintro e w7 ⟨v7, rfl, hR7, ⟨A7, n7, c7, rfl⟩, hb7⟩
        have HB7 := Lib.hid (HB6.out.trans (hb7.mono HB6.out.size))
        have HR7 := Lib.hid (HR6.out.below hb7)
        have HR7' := Lib.hid hR7
        have HB67 := Lib.hid hb7
        replace O3 := Lib.hid (O3.out.on hb7)
        have HALL := Lib.hid (inR_all HC.out (d := 1 + x4) (by omega) hd2)
        clear hb7 hR7
        go_wp2
        go_loop [16, 17] (fun b i => ∃ k : Nat, k ≤ L.length ∧ i = .int .i64 (k : Int) ∧ b = .bool ((L.take k).any (inR (1 + x4)))) (fun _ i => L.length - (RowKit.intOf i).toNat)
        case atStart => exact ⟨0, Nat.zero_le _, rfl, by simp⟩
        case round =>
          obtain ⟨k, hk, rfl, rfl⟩ := hrel
          by_cases hlt : k < L.length
          · have hget : L[k]? = some L[k] := List.getElem?_eq_getElem hlt
            have hst := inR_step (d := 1 + x4) hget
            obtain ⟨e1, _⟩ := own_cell HR7.out.row (j := k) (u := .slice (some ⟨L[k].h, 0, none⟩) 2 2) (by have := flat_at bCells (size := 1) (fun _ => rfl) L k L[k] 0 _ hget rfl (by omega); simpa using this)
            obtain ⟨hrow, _⟩ := HR7.out.each L[k] (List.getElem_mem hlt)
            have e2 := hrow.cell 0 _ rfl
            have e3 := hrow.cell 1 _ rfl
            have HST := Lib.hid hst
            have HIN : Hid (inR (1 + x4) L[k] = (decide (L[k].lo ≤ 1 + x4) && decide (1 + x4 ≤ L[k].hi))) := Lib.hid rfl
            clear hget hst hrow
            generalize L[k] = x at *
            generalize (L.take k).any (inR (1 + x4)) = r at *
            have hkl : (k : Int) < (L.length : Int) := by omega
            cases r with
            | true =>
              go_wp2
              go_round
              case rel => exact ⟨k + 1, by omega, by go_num, by rw [HST.out]; rfl⟩
              case measure => simp [RowKit.intOf]; omega
            | false =>
              by_cases g1 : x.lo ≤ 1 + x4
              · by_cases g2 : 1 + x4 ≤ x.hi
                · have HX : Hid (inR (1 + x4) x = true) := Lib.hid (by rw [HIN.out]; simp [g1, g2])
                  have g1' : decide (x.lo ≤ 1 + x4) = true := by simp [g1]
                  have g2' : decide (1 + x4 ≤ x.hi) = true := by simp [g2]
                  go_wp2
                  go_round
                  case rel => exact ⟨k + 1, by omega, by go_num, by rw [HST.out, HX.out]; rfl⟩
                  case measure => simp [RowKit.intOf]; omega
                · have HX : Hid (inR (1 + x4) x = false) := Lib.hid (by rw [HIN.out]; simp [g2])
                  have g1' : decide (x.lo ≤ 1 + x4) = true := by simp [g1]
                  have g2' : decide (1 + x4 ≤ x.hi) = false := by simp [g2]
                  go_wp2
                  go_round
                  case rel => exact ⟨k + 1, by omega, by go_num, by rw [HST.out, HX.out]; rfl⟩
                  case measure => simp [RowKit.intOf]; omega
              · have HX : Hid (inR (1 + x4) x = false) := Lib.hid (by rw [HIN.out]; simp [g1])
                have g1' : decide (x.lo ≤ 1 + x4) = false := by simp [g1]
                go_wp2
                go_round
                case rel => exact ⟨k + 1, by omega, by go_num, by rw [HST.out, HX.out]; rfl⟩
                case measure => simp [RowKit.intOf]; omega
          · have hkl : ¬ (k : Int) < (L.length : Int) := by omega
            rw [List.take_of_length_le (by omega), HALL.out]
            have hxx : ∀ b : Bool, ((!b) == b) = false := by decide
            generalize hos : (onO S ls (1 + x4)).isSome = r4
            cases r4 with
            | true => 
              obtain ⟨R1, hR1⟩ : ∃ R1, onO S ls (1 + x4 - 1) = some R1 := by
                cases h : onO S ls (1 + x4 - 1) with
                | none => exact absurd h (HY.out _ (by omega) (by omega))
                | some R => exact ⟨R, rfl⟩
              obtain ⟨R2, hR2⟩ : ∃ R2, onO S ls (1 + x4) = some R2 := by
                cases h : onO S ls (1 + x4) with
                | none => exact absurd h (HY.out _ (by omega) (by omega))
                | some R => exact ⟨R, rfl⟩
              have hCI := changed_iff HP.out HCH.out (d := 1 + x4) hd1 hd2
              rw [show (1 + x4 : Int) - 1 = 1 + x4 - 1 by omega, hR1, hR2] at hCI
              have hO6 := (HR6'.out R1 hR1).1
              have hO7 := (HR7'.out R2 hR2).1
              rw [hR1]
              have HHA := Lib.hid (has_any D (1 + x4) w7 _ (O3.out.slR (size := 1) (fun _ => rfl)))
              have HO6 := Lib.hid (hO6.on HB67.out)
              have HO7 := Lib.hid hO7
              have HCI := Lib.hid hCI
              obtain ⟨q6, p6, hv6, _⟩ := hO6
              injection hv6 with y1 y2 y3
              subst y1 y2 y3
              obtain ⟨q7, p7, hv7, _⟩ := hO7
              injection hv7 with y1 y2 y3
              subst y1 y2 y3
              clear hCI hR1 hR2
              obtain ⟨r, hr⟩ : ∃ r, decide ((1 + x4 : Int) ∈ D) = r := ⟨_, rfl⟩
              rw [hr] at HHA
              have HR := Lib.hid hr
              clear hr
              go_wp2_with (fail)
              refine (HHA.out).mono ?_
              rintro e w8 ⟨rfl, q8, rfl⟩
              have HB8 := Lib.hid (below_drewN HB7.out q8)
              have HSA := Lib.hid (sameArts_any R1 R2 (w7.drewN q8) _ _ ((HO6.out.on (below_drewN (Below.refl w7.heap.size w7) q8)).slR (size := 2) (fun _ => rfl)) ((HO7.out.on (below_drewN (Below.refl w7.heap.size w7) q8)).slR (size := 2) (fun _ => rfl)))
              go_wp2_with (fail)
              refine (HSA.out).mono ?_
              rintro e w9 ⟨r2, rfl, hr2, hb9⟩
              have HB9 := Lib.hid (HB8.out.trans (hb9.mono HB8.out.size))
              have hne : r2 = !r := by
                have h1 := HR.out
                have h2 := HCI.out
                cases r with
                | true =>
                  have h3 := h2.1 (of_decide_eq_true h1)
                  cases r2 with
                  | false => rfl
                  | true => exact absurd (by rw [hr2.1 rfl]) h3
                | false =>
                  cases r2 with
                  | true => rfl
                  | false =>
                    exfalso
                    have h3 := of_decide_eq_false h1
                    apply h3
                    apply h2.2
                    intro h4
                    injection h4 with h4
                    have := hr2.2 h4
                    cases this
              subst hne
              clear hr2 hb9
              cases r with
              | true =>
                go_wp2
                go_ret
                exact ⟨rfl, HB2.out.trans (HB9.out.mono HB2.out.size)⟩
              | false =>
                go_wp2
                go_ret
                exact ⟨rfl, HB2.out.trans (HB9.out.mono HB2.out.size)⟩
            | false =>
              (exfalso; rw [some_all HY.out (by omega) (by omega)] at hos; cases hos)
  · have HL := Lib.hid (long_yes A1 n1 c1 A2 n2 c2 w hl)
    clear hl
    go_enter Try.func4, Try.ntmps4
    go_wp2_with (fail)
    refine (HL.out).mono ?_
    rintro e w1 ⟨rfl, m1, rfl⟩
    go_wp2
    go_ret
    exact ⟨rfl, below_drewN (Below.refl w.heap.size w) m1⟩
end Go.Proofs.Ytmgdodgofpapgaa
