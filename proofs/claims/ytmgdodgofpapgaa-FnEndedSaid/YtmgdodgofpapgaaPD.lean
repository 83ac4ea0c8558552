/- A patch applied to a statute, as plain functions. No program here. Rows of the call's own, whole: cells set, copied, cleared, whatever the element's size. slices.IndexFunc at articles, walked; articles found. slices.Delete at articles, walked: one element goes. slices.Insert at articles, walked: one element comes. A patch applied, walked: the program's. A patch applied, walked: the program's, whole. -/
import Derived.Test.YtmgdodgofpapgaaPC
import Derived.Laws.StructEq
import Derived.Test.YtmgdodgofpapgaaPB
import Derived.Laws.CopyOwn
import Derived.Laws.IdiomCopy
import Derived.Lib.SliceRun
import Derived.Deep.RegionLaw
import Derived.Shelf.Abstract
import Derived.Lib.AppendZerosOnto
import Derived.Lib.Overlaps
import Derived.Laws.Externs
import Derived.Laws.NewBlocks
namespace Go.Proofs.Ytmgdodgofpapgaa
open Go.RowKit Go.Lib

theorem find_mid : ∀ {A B : List Art} {a : Art}, (∀ c ∈ A, c.id < a.id) → ∀ q, findA (A ++ a :: B) q = if q = a.id then a.text else findA (A ++ B) q
  | [], B, a, _, q => by
    show findA (a :: B) q = _
    rw [findA]
    by_cases h : a.id = q
    · rw [if_pos h, if_pos h.symm]
    · rw [if_neg h, if_neg (fun e => h e.symm)]
      rfl
  | x :: A, B, a, hA, q => by
    have hx := hA x List.mem_cons_self
    show findA (x :: (A ++ a :: B)) q = if q = a.id then a.text else findA (x :: (A ++ B)) q
    rw [findA, findA, find_mid (fun c hc => hA c (List.mem_cons_of_mem _ hc)) q]
    by_cases h : x.id = q
    · rw [if_pos h, if_pos h, if_neg (by omega)]
    · rw [if_neg h, if_neg h]
theorem rise_mid {A B : List Art} {a : Art} (h : RiseA (A ++ a :: B)) : (∀ c ∈ A, c.id < a.id) ∧ (∀ c ∈ B, a.id < c.id) ∧ RiseA (A ++ B) := by
  unfold RiseA at *
  rw [List.pairwise_append, List.pairwise_cons] at h
  refine ⟨fun c hc => h.2.2 c hc a List.mem_cons_self, h.2.1.1, ?_⟩
  rw [List.pairwise_append]
  exact ⟨h.1, h.2.1.2, fun x hx y hy => h.2.2 x hx y (List.mem_cons_of_mem _ hy)⟩
theorem rise_ins {A B : List Art} {a : Art} (h : RiseA (A ++ B)) (hA : ∀ c ∈ A, c.id < a.id) (hB : ∀ c ∈ B, a.id < c.id) : RiseA (A ++ a :: B) := by
  unfold RiseA at *
  rw [List.pairwise_append] at h ⊢
  rw [List.pairwise_cons]
  refine ⟨h.1, ⟨hB, h.2.1⟩, fun x hx y hy => ?_⟩
  rcases List.mem_cons.1 hy with rfl | hy
  · exact hA x hx
  · exact h.2.2 x hx y hy
theorem find_gone {A B : List Art} {a : Art} (h : RiseA (A ++ a :: B)) (q : Int) : findA (A ++ B) q = if q = a.id then ⟨#[]⟩ else findA (A ++ a :: B) q := by
  obtain ⟨hA, hB, _⟩ := rise_mid h
  by_cases e : q = a.id
  · rw [if_pos e, findA_none]
    intro c hc
    rcases List.mem_append.1 hc with hc | hc
    · have := hA c hc; omega
    · have := hB c hc; omega
  · rw [if_neg e, find_mid hA q, if_neg e]
theorem find_turned {A B : List Art} {a : Art} (x : ByteArray) (h : RiseA (A ++ a :: B)) (q : Int) : findA (A ++ ⟨a.id, x⟩ :: B) q = if q = a.id then x else findA (A ++ a :: B) q := by
  obtain ⟨hA, hB, _⟩ := rise_mid h
  rw [find_mid (a := ⟨a.id, x⟩) hA q, find_mid hA q]
  by_cases e : q = a.id
  · rw [if_pos e, if_pos e]
  · rw [if_neg e, if_neg e, if_neg e]
theorem rise_turned {A B : List Art} {a : Art} (x : ByteArray) (h : RiseA (A ++ a :: B)) : RiseA (A ++ ⟨a.id, x⟩ :: B) := by
  obtain ⟨hA, hB, hr⟩ := rise_mid h
  exact rise_ins (a := ⟨a.id, x⟩) hr hA hB

/-- The text of an article behind a patch. -/
def target (S : List Art) (P : List Edit) (i : Int) : ByteArray := if (editOf P i).kind = 0 then findA S i else (editOf P i).new
/-- The whole patch fits. -/
def fits (S : List Art) (P : List Edit) : Bool := P.all (fun e => findA S e.id == e.old)
theorem fits_iff {S : List Art} {P : List Edit} : fits S P = true ↔ ∀ e ∈ P, findA S e.id = e.old := by
  unfold fits
  rw [List.all_eq_true]
  constructor
  · intro h e he
    have := h e he
    rw [beq_toListBytes, beq_iff_eq] at this
    rw [← mk_toList (findA S e.id), this, mk_toList]
  · intro h e he
    rw [h e he, beq_toListBytes]
    simp
structure GoodA (S : List Art) : Prop where
  rise : RiseA S
  all : ∀ a ∈ S, okArt a = true
theorem GoodA.of {S : List Art} (h : okStat S = true) : GoodA S := ⟨((okStat_iff S).1 h).2.1, ((okStat_iff S).1 h).1⟩
theorem GoodA.ok {S : List Art} (h : GoodA S) (h8 : S.length ≤ 8) : okStat S = true := (okStat_iff S).2 ⟨h.all, h.rise, h8⟩
theorem sent_ne {t : ByteArray} (h : okSent t.toList = true) : t.toList ≠ [] := by
  intro h0
  rw [h0] at h
  revert h
  decide
theorem GoodA.text {S : List Art} (h : GoodA S) {a : Art} (ha : a ∈ S) : a.text ≠ ⟨#[]⟩ := by
  intro e
  have := (okArt_facts (h.all a ha)).2.2.1
  rw [e] at this
  exact sent_ne this (by rw [ByteArray.toList_eq])
theorem GoodA.ext {S T : List Art} (hS : GoodA S) (hT : GoodA T) (h : ∀ i, findA S i = findA T i) : S = T :=
  find_ext hS.rise hT.rise (fun _ ha => hS.text ha) (fun _ ha => hT.text ha) h
/-- R is what S becomes by P. -/
structure Becomes (S : List Art) (P : List Edit) (R : List Art) : Prop where
  good : GoodA R
  find : ∀ i, findA R i = target S P i
theorem Becomes.uniq {S : List Art} {P : List Edit} {R T : List Art} (h : Becomes S P R) (k : Becomes S P T) : R = T :=
  h.good.ext k.good (fun i => (h.find i).trans (k.find i).symm)
theorem Becomes.nil {S : List Art} (h : GoodA S) : Becomes S [] S := ⟨h, fun _ => rfl⟩

theorem editOf_app : ∀ {P Q : List Edit} {i : Int}, (∀ a ∈ P, a.id ≠ i) → editOf (P ++ Q) i = editOf Q i
  | [], _, _, _ => rfl
  | a :: P, Q, i, h => by
    show editOf (a :: (P ++ Q)) i = _
    rw [editOf, if_neg (h a List.mem_cons_self), editOf_app (fun x hx => h x (List.mem_cons_of_mem _ hx))]
theorem editOf_app' : ∀ {P Q : List Edit} {i : Int}, (∀ a ∈ Q, a.id ≠ i) → editOf (P ++ Q) i = editOf P i
  | [], Q, i, h => by
    show editOf Q i = noEdit
    exact editOf_none h
  | a :: P, Q, i, h => by
    show editOf (a :: (P ++ Q)) i = _
    rw [editOf, editOf, editOf_app' h]
theorem kind_ne {e : Edit} (h : okEdit e = true) : e.kind ≠ 0 := by
  obtain ⟨_, _, hk⟩ := okEdit_kinds h
  omega
theorem target_old {S : List Art} {P : List Edit} {i : Int} (h : ∀ a ∈ P, a.id ≠ i) : target S P i = findA S i := by
  unfold target
  rw [editOf_none h]
  rfl
theorem target_step {S : List Art} {P : List Edit} {e : Edit} (hP : RiseE (P ++ [e])) (he : okEdit e = true) (i : Int) : target S (P ++ [e]) i = if i = e.id then e.new else target S P i := by
  have hne : ∀ a ∈ P, a.id ≠ e.id := fun a ha => by
    unfold RiseE at hP
    rw [List.pairwise_append] at hP
    have := hP.2.2 a ha e (by simp)
    omega
  by_cases h : i = e.id
  · subst h
    rw [if_pos rfl]
    unfold target
    rw [editOf_app hne, editOf, if_pos rfl, if_neg (kind_ne he)]
  · rw [if_neg h]
    unfold target
    rw [editOf_app' (by simpa using fun e' => h e'.symm)]
/-- The steps of one edit. -/
theorem Becomes.drop {S A B : List Art} {P : List Edit} {e : Edit} {a : Art} (h : Becomes S P (A ++ a :: B)) (hP : RiseE (P ++ [e])) (he : okEdit e = true) (hk : e.kind = 2) (hi : a.id = e.id) : Becomes S (P ++ [e]) (A ++ B) where
  good := ⟨(rise_mid h.good.rise).2.2, fun c hc => h.good.all c (by
    rcases List.mem_append.1 hc with hc | hc
    · exact List.mem_append_left _ hc
    · exact List.mem_append_right _ (List.mem_cons_of_mem _ hc))⟩
  find := fun i => by
    have hn : e.new = ⟨#[]⟩ := by
      obtain ⟨_, _, hk'⟩ := okEdit_kinds he
      rcases hk' with ⟨k, _, _⟩ | ⟨_, _, hn⟩ | ⟨k, _, _⟩
      · omega
      · exact hn
      · omega
    rw [find_gone h.good.rise i, target_step hP he i, h.find i, hn, hi]
theorem Becomes.turn {S A B : List Art} {P : List Edit} {e : Edit} {a : Art} (h : Becomes S P (A ++ a :: B)) (hP : RiseE (P ++ [e])) (he : okEdit e = true) (hk : e.kind = 3) (hi : a.id = e.id) : Becomes S (P ++ [e]) (A ++ ⟨a.id, e.new⟩ :: B) where
  good := ⟨rise_turned _ h.good.rise, fun c hc => by
    rcases List.mem_append.1 hc with hc | hc
    · exact h.good.all c (List.mem_append_left _ hc)
    · rcases List.mem_cons.1 hc with rfl | hc
      · obtain ⟨h1, h2, hk'⟩ := okEdit_kinds he
        rcases hk' with ⟨k, _, _⟩ | ⟨k, _, _⟩ | ⟨_, _, hn⟩
        · omega
        · omega
        · unfold okArt
          rw [hn, inB_true (by show 1 ≤ a.id; omega) (by show a.id ≤ 99; omega)]
          rfl
      · exact h.good.all c (List.mem_append_right _ (List.mem_cons_of_mem _ hc))⟩
  find := fun i => by rw [find_turned _ h.good.rise i, target_step hP he i, h.find i, hi]
theorem Becomes.add {S A B : List Art} {P : List Edit} {e : Edit} (h : Becomes S P (A ++ B)) (hP : RiseE (P ++ [e])) (he : okEdit e = true) (hk : e.kind = 1) (hA : ∀ c ∈ A, c.id < e.id) (hB : ∀ c ∈ B, e.id < c.id) : Becomes S (P ++ [e]) (A ++ ⟨e.id, e.new⟩ :: B) where
  good := ⟨rise_ins (a := ⟨e.id, e.new⟩) h.good.rise hA hB, fun c hc => by
    rcases List.mem_append.1 hc with hc | hc
    · exact h.good.all c (List.mem_append_left _ hc)
    · rcases List.mem_cons.1 hc with rfl | hc
      · obtain ⟨h1, h2, hk'⟩ := okEdit_kinds he
        rcases hk' with ⟨_, _, hn⟩ | ⟨k, _, _⟩ | ⟨k, _, _⟩
        · unfold okArt
          rw [hn, inB_true h1 h2]
          rfl
        · omega
        · omega
      · exact h.good.all c (List.mem_append_right _ hc)⟩
  find := fun i => by rw [find_mid (a := ⟨e.id, e.new⟩) hA i, target_step hP he i, h.find i]

/-- What S becomes by P, as a list. -/
def applyL (S : List Art) (P : List Edit) : List Art :=
  (List.range 99).filterMap (fun j : Nat => if (target S P ((j : Int) + 1)).toList = [] then none else some ⟨(j : Int) + 1, target S P ((j : Int) + 1)⟩)
theorem target_ok {S : List Art} {P : List Edit} (hS : GoodA S) (hP : okPatch P = true) (i : Int) : (target S P i).toList = [] ∨ (okSent (target S P i).toList = true ∧ 1 ≤ i ∧ i ≤ 99) := by
  unfold target
  split
  · rcases findA_cases S i with ⟨a, ha, hi, h⟩ | ⟨h, _⟩
    · obtain ⟨h1, h2, h3, _⟩ := okArt_facts (hS.all a ha)
      rw [h]
      exact .inr ⟨h3, by omega, by omega⟩
    · rw [h]
      exact .inl (by rw [ByteArray.toList_eq])
  · rename_i hk
    rcases editOf_cases P i with ⟨hm, hi⟩ | ⟨h, _⟩
    · obtain ⟨h1, h2, hk'⟩ := okEdit_kinds (((okPatch_iff P).1 hP).1 _ hm)
      rcases hk' with ⟨_, _, hn⟩ | ⟨_, _, hn⟩ | ⟨_, _, hn⟩
      · exact .inr ⟨hn, by omega, by omega⟩
      · rw [hn]
        exact .inl (by rw [ByteArray.toList_eq])
      · exact .inr ⟨hn, by omega, by omega⟩
    · rw [h] at hk
      exact absurd rfl hk
theorem fm_mem (f : Nat → ByteArray) : ∀ (n : Nat) (a : Art), a ∈ (List.range n).filterMap (fun j => if (f j).toList = [] then none else some (⟨(j : Int) + 1, f j⟩ : Art)) → ∃ j, j < n ∧ a = ⟨(j : Int) + 1, f j⟩ ∧ (f j).toList ≠ [] := by
  intro n a h
  obtain ⟨j, hj, h⟩ := List.mem_filterMap.1 h
  split at h
  · cases h
  · rename_i hne
    injection h with h
    exact ⟨j, List.mem_range.1 hj, h.symm, hne⟩
theorem fm_rise (f : Nat → ByteArray) (n : Nat) : RiseA ((List.range n).filterMap (fun j => if (f j).toList = [] then none else some (⟨(j : Int) + 1, f j⟩ : Art))) := by
  induction n with
  | zero => exact List.Pairwise.nil
  | succ n ih =>
    unfold RiseA at *
    rw [List.range_succ, List.filterMap_append, List.pairwise_append]
    refine ⟨ih, ?_, fun x hx y hy => ?_⟩
    · rw [List.filterMap_cons, List.filterMap_nil]
      split <;> simp
    · obtain ⟨j, hj, rfl, _⟩ := fm_mem f n x hx
      obtain ⟨k, hk, h⟩ := List.mem_filterMap.1 hy
      rw [List.mem_singleton] at hk
      subst hk
      split at h
      · cases h
      · injection h with h
        rw [← h]
        show (j : Int) + 1 < (k : Int) + 1
        omega
theorem Becomes.applyL {S : List Art} {P : List Edit} (hS : GoodA S) (hP : okPatch P = true) : Becomes S P (applyL S P) where
  good := ⟨fm_rise (fun j : Nat => target S P ((j : Int) + 1)) 99, fun a ha => by
    obtain ⟨j, hj, rfl, hne⟩ := fm_mem (fun j : Nat => target S P ((j : Int) + 1)) 99 a ha
    rcases target_ok hS hP ((j : Int) + 1) with h | ⟨h1, h2, h3⟩
    · exact absurd h hne
    · unfold okArt
      rw [h1, inB_true h2 h3]
      rfl⟩
  find := fun i => by
    have hnil : ∀ t : ByteArray, t.toList = [] → t = ⟨#[]⟩ := fun t h => by rw [← mk_toList t, h]
    rcases findA_cases (Go.Proofs.Ytmgdodgofpapgaa.applyL S P) i with ⟨a, ha, hi, h⟩ | ⟨h, hno⟩
    · obtain ⟨j, hj, rfl, hne⟩ := fm_mem (fun j : Nat => target S P ((j : Int) + 1)) 99 a ha
      rw [h, ← hi]
    · rw [h]
      rcases target_ok hS hP i with h0 | ⟨h1, h2, h3⟩
      · exact (hnil _ h0).symm
      · exfalso
        refine hno ⟨i, target S P i⟩ (List.mem_filterMap.2 ⟨(i - 1).toNat, List.mem_range.2 (by omega), ?_⟩) rfl
        have e : (((i - 1).toNat : Nat) : Int) + 1 = i := by omega
        rw [e, if_neg (sent_ne h1)]
/-- What S becomes by P, if P fits and there is room. -/
def applyO (S : List Art) (P : List Edit) : Option (List Art) := if fits S P = true ∧ (applyL S P).length ≤ 8 then some (applyL S P) else none
theorem applyO_ok {S R : List Art} {P : List Edit} (hS : GoodA S) (hP : okPatch P = true) (h : applyO S P = some R) : okStat R = true ∧ Becomes S P R ∧ fits S P = true := by
  unfold applyO at h
  split at h
  · rename_i hc
    injection h with h
    subst h
    exact ⟨(Becomes.applyL hS hP).good.ok hc.2, Becomes.applyL hS hP, hc.1⟩
  · cases h
theorem applyO_of {S R : List Art} {P : List Edit} (hS : GoodA S) (hP : okPatch P = true) (hf : fits S P = true) (hR : Becomes S P R) : applyO S P = if R.length ≤ 8 then some R else none := by
  have e := (Becomes.applyL hS hP).uniq hR
  unfold applyO
  rw [e]
  by_cases h : R.length ≤ 8
  · rw [if_pos ⟨hf, h⟩, if_pos h]
  · rw [if_neg (fun k => h k.2), if_neg h]
theorem applyO_no {S : List Art} {P : List Edit} (hf : fits S P = false) : applyO S P = none := if_neg (fun k => by rw [hf] at k; cases k.1)
end Go.Proofs.Ytmgdodgofpapgaa

namespace Go.Proofs.Ytmgdodgofpapgaa
open Go.RowKit Go.Lib

section
variable {P : Program}

/-- A block that holds these cells, none of them frozen. -/
def Blk (w : World) (g : Nat) (e : TypeId) (C : List Value) : Prop := w.heap[g]? = some (.cells C.toArray e (0, 0))
theorem Blk.cell {w : World} {g : Nat} {e : TypeId} {C : List Value} (h : Blk w g e C) (j : Nat) : w.cell? ⟨g, j, none⟩ = C[j]? := by
  unfold Blk at h
  simp [World.cell?, h]
theorem Blk.free {w : World} {g : Nat} {e : TypeId} {C : List Value} (h : Blk w g e C) {j : Nat} (_hj : j < C.length) : w.frozen? ⟨g, j, none⟩ = false := by
  unfold Blk at h
  simp [World.frozen?, h]
theorem Blk.lt {w : World} {g : Nat} {e : TypeId} {C : List Value} (h : Blk w g e C) : g < w.heap.size := (Array.getElem?_eq_some_iff.1 h).1
theorem Blk.isSome {w : World} {g : Nat} {e : TypeId} {C : List Value} (h : Blk w g e C) {j : Nat} (hj : j < C.length) : (w.cell? ⟨g, j, none⟩).isSome = true := by
  rw [h.cell, List.getElem?_eq_getElem hj]
  rfl
theorem Blk.drewN {w : World} {g : Nat} {e : TypeId} {C : List Value} (h : Blk w g e C) (n : Nat) : Blk (w.drewN n) g e C := h
theorem Blk.drew {w : World} {g : Nat} {e : TypeId} {C : List Value} (h : Blk w g e C) : Blk w.drew g e C := h
theorem Blk.grown {w w' : World} {g : Nat} {e : TypeId} {C : List Value} {row : Option Nat} (h : Blk w g e C) (hg : w.grownBy w' row) (hne : row ≠ some g) : Blk w' g e C := by
  have := hg.block g h.lt (fun e => hne e.symm)
  unfold Blk
  rw [this]
  exact h
theorem setCells_row (P : Program) {w : World} {g : Nat} {e : TypeId} {C : List Value} (h : Blk w g e C) (o : Nat) (vs : List Value) (hfit : o + vs.length ≤ C.length) (h1 : ∀ v ∈ vs, v.oneCell' = true) : w.setCells g o vs = w.setRow g (splice C o vs).toArray := by
  have a := run_storeCells_cells (P := P) g o vs 0 w (fun j hj => h.isSome (by omega)) (fun j hj => h.free (by omega)) h1
  have b := run_storeCells_at P g o e vs 0 C.toArray w h (by simpa using hfit) h1
  rw [a] at b
  injection b with _ b
  rw [Nat.add_zero] at b
  rw [b]
  simp [splice]
theorem Blk.set (P : Program) {w : World} {g : Nat} {e : TypeId} {C : List Value} (h : Blk w g e C) (o : Nat) (vs : List Value) (hfit : o + vs.length ≤ C.length) (h1 : ∀ v ∈ vs, v.oneCell' = true) : Blk (w.setCells g o vs) g e (splice C o vs) := by
  rw [setCells_row P h o vs hfit h1]
  exact setRow_heap w g _ _ e _ h
theorem grown_set (P : Program) {w : World} {g : Nat} {e : TypeId} {C : List Value} (h : Blk w g e C) (o : Nat) (vs : List Value) (hfit : o + vs.length ≤ C.length) (h1 : ∀ v ∈ vs, v.oneCell' = true) : w.grownBy (w.setCells g o vs) (some g) := by
  rw [setCells_row P h o vs hfit h1]
  exact ⟨rfl, rfl, rfl, by simp [World.setRow], fun k _ hk => setRow_other w g k _ (fun e => hk (by rw [e]))⟩
theorem blk_of_own {w : World} {base g n cap size : Nat} {e : TypeId} {xs : List Value} (h : w.ownsRow base e size (.slice (some ⟨g, 0, none⟩) n cap) n xs) : ∃ T, Blk w g e (xs ++ T) ∧ (xs ++ T).length = cap * size ∧ n ≤ cap ∧ cap ≤ maxLen ∧ base ≤ g ∧ xs.length = n * size := by
  obtain ⟨hl, ⟨hv, _⟩ | ⟨g', cap', cur, hv, hg, hh, h1, h2, h3, h4⟩⟩ := h
  · cases hv
  · injection hv with e1 e2 e3
    injection e1 with e1
    injection e1 with e1
    subst e1 e3
    refine ⟨cur.toList.drop (n * size), ?_, ?_, h1, h2, hg, hl⟩
    · unfold Blk
      rw [← h4, List.take_append_drop]
      exact hh
    · rw [← h4, List.take_append_drop]
      simpa using h3
theorem own_of_blk {w : World} {base g n cap size : Nat} {e : TypeId} {C xs : List Value} (h : Blk w g e C) (hC : C.length = cap * size) (hx : C.take (n * size) = xs) (hl : xs.length = n * size) (h1 : n ≤ cap) (h2 : cap ≤ maxLen) (hg : base ≤ g) : w.ownsRow base e size (.slice (some ⟨g, 0, none⟩) n cap) n xs :=
  ⟨hl, .inr ⟨g, cap, C.toArray, rfl, hg, h, h1, h2, by simpa using hC, by simpa using hx⟩⟩

/-- copy at elements of whatever size: all is read before anything is written. -/
theorem run_copy_k (w : World) (dT sT ty elem : TypeId) (k : Nat) (b o dLen dCap : Nat) (a : Addr) (sLen sCap : Nat) (cs : List Value)
    (hu : P.underlying dT = some (.slice elem)) (hs : (P.info? elem).map (·.size) = some k) (hn : cs.length = Nat.min sLen dLen * k)
    (hsrc : ∀ j v, cs[j]? = some v → w.cell? (a.add j) = some v) (hc : ∀ j, j < cs.length → (w.cell? ⟨b, o + j, none⟩).isSome = true) (hf : ∀ j, j < cs.length → w.frozen? ⟨b, o + j, none⟩ = false) (h1 : ∀ v ∈ cs, v.oneCell' = true) :
    (Builtin.copy_ #[dT, sT] ty #[.slice (some ⟨b, o, none⟩) dLen dCap, .slice (some a) sLen sCap]).run P w = .ok (goInt (Nat.min sLen dLen)) (w.setCells b o cs) := by
  have hl := run_loadCells_list (P := P) w a cs hsrc
  have hst := run_storeCells_cells (P := P) b o cs 0 w (by simpa using hc) (by simpa using hf) h1
  cases hq : P.info? elem with
  | none => simp [hq] at hs
  | some i =>
    have hi : i.size = k := by simpa [hq] using hs
    simp [Builtin.copy_, run_underlying hu, Builtin.lenOf, Builtin.firstCells, sizeOf, typeInfo, hq, hi, ← hn, hl, hst]
/-- clear of n elements of k cells each. -/
theorem run_clear_k (w : World) (t e ty : TypeId) (z : Value) (zs : List Value) (ht : P.underlying t = some (.slice e)) (hv : ∀ w, (zeroValue e).run P w = .ok z w) (b o n c : Nat) (hn : 0 < n)
    (hz : (Builtin.zeroCells z.cells n).toList = zs) (h1 : ∀ v ∈ zs, v.oneCell' = true)
    (hc : ∀ j, j < zs.length → (w.cell? ⟨b, o + j, none⟩).isSome = true) (hf : ∀ j, j < zs.length → w.frozen? ⟨b, o + j, none⟩ = false) :
    (Builtin.clear_ #[t] ty #[.slice (some ⟨b, o, none⟩) n c]).run P w = .ok (.tuple #[]) (w.setCells b o zs) := by
  have hst := run_storeCells_cells (P := P) b o zs 0 w (by simpa using hc) (by simpa using hf) h1
  simp only [Nat.add_zero] at hst
  obtain ⟨m, rfl⟩ : ∃ m, n = m + 1 := ⟨n - 1, by omega⟩
  simp [Builtin.clear_, run_underlying ht, hv, hz, hst]
end

theorem wp_copy_run2 {P : Program} (w : World) {o : Oper} {a : Act} {K : Act → World → Prop} {Q : Exit → Act → World → Prop} (d s : Operand) (t t' : TypeId)
    (ho : o.op = .call { callee := .builtin .copy, args := #[d, s], argTypes := #[t, t'] }) (v u : Value) (hd : a.eval d = v) (hs : a.eval s = u) {v' : Value} {w' : World}
    (hr : (Builtin.copy_ #[t, t'] o.type #[v, u]).run P w = .ok v' w') (h : K (a.put o.dst v') w') : o.wp P a w K Q := by
  unfold Oper.wp execOp
  simp only [ho, resolve, invoke, builtin, Sem.run_bind, Sem.run_pure, Result.andThen_ok, List.map_toArray, List.map_cons, List.map_nil, hd, hs, hr]
  exact h
theorem wpList_copy_run2 {P : Program} (w : World) {ops : Array Oper} {rest : List Oper} {o : Oper} {a : Act} {Q : Exit → Act → World → Prop} (hgd : o.guard = none) (d s : Operand) (t t' : TypeId)
    (ho : o.op = .call { callee := .builtin .copy, args := #[d, s], argTypes := #[t, t'] }) (v u : Value) (hd : a.eval d = v) (hs : a.eval s = u) {v' : Value} {w' : World}
    (hr : (Builtin.copy_ #[t, t'] o.type #[v, u]).run P w = .ok v' w') (h : wpList P ops Q rest (a.put o.dst v') w') : wpList P ops Q (o :: rest) a w :=
  wpList_plain hgd fun _ hK => wp_copy_run2 w d s t t' ho v u hd hs hr (hK _ _ h)
theorem step_copy_run2 {P : Program} {ops : Array Oper} {o : Oper} {a : Act} {w : World} {K : Act → World → Prop} {Q : Exit → Act → World → Prop} {E : Prop}
    (hg : o.guard = none) (d x : Operand) (dT sT : TypeId) (hop : o.op = Op.call { callee := Callee.builtin Builtin.copy, args := #[d, x], argTypes := #[dT, sT] })
    (v u : Value) (hd : a.eval d = v) (hx : a.eval x = u) {v' : Value} {w' : World} (hr : (Builtin.copy_ #[dT, sT] o.type #[v, u]).run P w = .ok v' w') (hK : K (a.put o.dst v') w') :
    if Region.wanted o (yielded ops a.tmps) = true then Oper.wp P o a w K Q else E := by
  have hw : Region.wanted o (yielded ops a.tmps) = true := by simp [Region.wanted, hg]
  rw [if_pos hw]
  unfold Oper.wp
  simp [execOp, hop, resolve, invoke, builtin, hd, hx, hr, Result.andThen]
  exact hK

theorem flat_len {α : Type} (f : α → List Value) {k : Nat} (hf : ∀ x, (f x).length = k) (L : List α) : (L.flatMap f).length = L.length * k := by
  induction L with
  | nil => simp
  | cons x r ih => rw [List.flatMap_cons, List.length_append, ih, hf, List.length_cons, Nat.succ_mul]; omega
theorem flat_split {α : Type} (f : α → List Value) (L : List α) (i : Nat) : L.flatMap f = (L.take i).flatMap f ++ (L.drop i).flatMap f := by
  rw [← List.flatMap_append, List.take_append_drop]
theorem flat_one {α : Type} (f : α → List Value) {P : Value → Prop} (h : ∀ x, ∀ v ∈ f x, P v) (L : List α) : ∀ v ∈ L.flatMap f, P v := fun v hv => by
  obtain ⟨x, _, hx⟩ := List.mem_flatMap.1 hv
  exact h x v hx
/-- The cells behind a deletion. -/
theorem cells_del {α : Type} (f : α → List Value) {k : Nat} (hf : ∀ x, (f x).length = k) (L : List α) (T zs : List Value) (i : Nat) (hi : i < L.length) (_hz : zs.length = k) (_hT : k ≤ k + T.length) :
    (splice (splice (L.flatMap f ++ T) (i * k) ((L.drop (i + 1)).flatMap f)) ((L.length - 1) * k) zs).take ((L.length - 1) * k) = (L.take i ++ L.drop (i + 1)).flatMap f := by
  have hl : ((L.take i ++ L.drop (i + 1)).flatMap f).length = (L.length - 1) * k := by
    rw [flat_len f hf, List.length_append, List.length_take, List.length_drop]
    congr 1
    omega
  have h1 : (L.flatMap f ++ T).take (i * k) = (L.take i).flatMap f := by
    rw [flat_split f L i, List.append_assoc, List.take_left']
    rw [flat_len f hf, List.length_take, Nat.min_eq_left (by omega)]
  have h2 : splice (L.flatMap f ++ T) (i * k) ((L.drop (i + 1)).flatMap f) = (L.take i ++ L.drop (i + 1)).flatMap f ++ (L.flatMap f ++ T).drop (i * k + ((L.drop (i + 1)).flatMap f).length) := by
    unfold splice
    rw [h1, List.flatMap_append, List.append_assoc]
  rw [h2]
  unfold splice
  rw [List.take_left' hl, List.take_left' hl]

section
variable {P : Program} {w : World}
/-- append of whatever slice is read as a list, to a row of the call's own. -/
theorem wpList_append_slR {α : Type} (f : α → List Value) {ops : Array Oper} {rest : List Oper} {o : Oper} {a : Act} {Q : Exit → Act → World → Prop} (hgd : o.guard = none) (s x : Operand) (t : TypeId)
    (ho : o.op = .call { callee := .builtin .append, args := #[s, x], argTypes := #[t, t] })
    (base : Nat) (e : TypeId) (i : TypeInfo) (z : Value) (size bytes : Nat) (ht : P.underlying t = some (.slice e)) (hi : P.info? e = some i) (hz : i.zero = some z)
    (hsize : i.size = size) (hby : i.bytes = bytes) (hzs : z.cells.size = size) (hsz : 0 < size)
    (v : Value) (n : Nat) (ys : List Value) (hs : a.eval s = v) (hown : w.ownsRow base e size v n ys)
    (vs : Value) (xs : List α) (B : Nat) (hx : a.eval x = vs) (hSl : SlR (Pl f) size w B vs xs) (hf : ∀ y, (f y).length = size) (h1 : ∀ y, ∀ u ∈ f y, u.oneCell' = true)
    (h63 : n + xs.length ≤ maxLen) (hbytes : (n + xs.length) * bytes ≤ 140737488355328) (hbase : base ≤ w.heap.size)
    (h : ∀ v' w', w'.ownsRow base e size v' (n + xs.length) (ys ++ xs.flatMap f) → w.grownBy w' v.ownBlock → (v ≠ .slice none 0 0 → v' ≠ .slice none 0 0) → wpList P ops Q rest (a.put o.dst v') w') : wpList P ops Q (o :: rest) a w := by
  obtain ⟨A, c, rfl, hc, hm, hel⟩ := hSl
  have hsome : ∀ ad : Addr, A = some ad → (∀ j u, (xs.flatMap f)[j]? = some u → w.cell? (ad.add j) = some u) → wpList P ops Q (o :: rest) a w := fun ad hA hcells => by
    subst hA
    exact wpList_append_own w hgd s x t ho base e i z size bytes ht hi hz hsize hby hzs hsz v n ys hs hown ad xs.length c (xs.flatMap f) hx (flat_len f hf xs) hcells (flat_one f (fun y u hu => h1 y u hu) xs) h63 hbytes hbase (fun v' w' g1 g2 g3 => h v' w' g1 g2 (fun hv hv' => hv (g3.1 hv').1))
  by_cases h0 : xs = []
  · subst h0
    cases A with
    | some ad => exact hsome ad rfl (fun j u hj => by simp at hj)
    | none =>
      have hrun : (Builtin.append_ #[t, t] o.type #[v, .slice none 0 c]).run P w = .ok v w := by
        rcases hown.2 with ⟨rfl, rfl⟩ | ⟨g, cap, cur, rfl, _, _, hnc, _⟩
        · simp [Builtin.append_, run_underlying ht, sizeOf, typeInfo, hi, Builtin.lenOf, Builtin.firstCells]
        · simp [Builtin.append_, run_underlying ht, sizeOf, typeInfo, hi, Builtin.lenOf, Builtin.firstCells, hnc, storeCells]
      refine wpList_plain hgd fun K hK => ?_
      unfold Oper.wp
      have hx' : a.eval x = .slice none 0 c := hx
      simp [execOp, ho, resolve, invoke, builtin, hs, hx', hrun, Result.andThen]
      exact hK _ _ (h v w (by simpa using hown) ⟨rfl, rfl, rfl, Nat.le_refl _, fun _ _ _ => rfl⟩ (fun hv => hv))
  · obtain ⟨b, off, hA, hb, hcell⟩ := hel (List.length_pos_iff.2 h0)
    refine hsome ⟨b, off, none⟩ hA (fun j u hj => ?_)
    have hjl : j < xs.length * size := by rw [← flat_len f hf xs]; exact (List.getElem?_eq_some_iff.1 hj).1
    have hq : j / size < xs.length := Nat.div_lt_of_lt_mul (by rw [Nat.mul_comm]; exact hjl)
    obtain ⟨us, hl, hp, hcl⟩ := hcell (j / size) xs[j / size] (List.getElem?_eq_getElem hq)
    have hp : us = f xs[j / size] := hp
    subst hp
    have hmod : j % size < size := Nat.mod_lt _ hsz
    have hu : (f xs[j / size])[j % size]? = some u := by
      have hjj : j = (j / size) * size + j % size := by rw [Nat.mul_comm]; exact (Nat.div_add_mod j size).symm
      have hfa : ∀ (L : List α) (q r : Nat) (hq : q < L.length), r < size → (L.flatMap f)[q * size + r]? = (f L[q])[r]? := by
        intro L
        induction L with
        | nil => intro q r hq; cases hq
        | cons y L ih =>
          intro q r hq hr
          rw [List.flatMap_cons]
          cases q with
          | zero => rw [Nat.zero_mul, Nat.zero_add, List.getElem?_append_left (by rw [hf]; exact hr)]; rfl
          | succ q =>
            rw [List.getElem?_append_right (by rw [hf, Nat.succ_mul]; omega), hf, Nat.succ_mul, show q * size + size + r - size = q * size + r by omega]
            exact ih q r (by simpa using hq) hr
      rw [← hfa xs (j / size) (j % size) hq hmod, ← hjj]
      exact hj
    have := hcl (j % size) u hu
    have hjj : (j / size) * size + j % size = j := by rw [Nat.mul_comm]; exact Nat.div_add_mod j size
    rw [Nat.add_assoc, hjj] at this
    rw [Addr.add_lit]
    exact this
end
end Go.Proofs.Ytmgdodgofpapgaa

namespace Go.Proofs.Ytmgdodgofpapgaa
open Go.RowKit Go.Lib

/-- A test on articles: it turns nothing. -/
def PredA (g : Nat) (lb : Array Value) (p : Art → Bool) (w : World) : Prop :=
  ∀ (W : World) (x : Art), Below w.heap.size w W → Calls Try.prog g (#[.agg #[.int .i64 x.id, .string x.text]] ++ lb) W (RetB (.bool (p x)) W)
def idxA (p : Art → Bool) (L : List Art) : Int := match L.findIdx? p with | some k => (k : Int) | none => -1
theorem idxA_hit {p : Art → Bool} {L : List Art} {k : Nat} (hk : k < L.length) (h : p L[k] = true) (hn : ∀ j (hj : j < k), p (L[j]'(by omega)) = false) : idxA p L = k := by
  have : L.findIdx? p = some k := List.findIdx?_eq_some_iff_getElem.2 ⟨hk, h, fun j hj => by rw [hn j hj]; simp⟩
  unfold idxA
  rw [this]
theorem idxA_none {p : Art → Bool} {L : List Art} (hn : ∀ j (hj : j < L.length), p L[j] = false) : idxA p L = -1 := by
  have : L.findIdx? p = none := List.findIdx?_eq_none_iff.2 (fun x hx => by
    obtain ⟨j, hj, rfl⟩ := List.mem_iff_getElem.1 hx
    exact hn j hj)
  unfold idxA
  rw [this]

theorem idx_cases (p : Art → Bool) (L : List Art) : (∃ k, ∃ h : k < L.length, idxA p L = k ∧ p L[k] = true ∧ ∀ j (hj : j < k), p (L[j]'(by omega)) = false) ∨ (idxA p L = -1 ∧ ∀ a ∈ L, p a = false) := by
  rcases hf : L.findIdx? p with _ | k
  · refine .inr ⟨by unfold idxA; rw [hf], fun a ha => ?_⟩
    have := List.findIdx?_eq_none_iff.1 hf a ha
    simpa using this
  · obtain ⟨h1, h2, h3⟩ := List.findIdx?_eq_some_iff_getElem.1 hf
    exact .inl ⟨k, h1, by unfold idxA; rw [hf], h2, fun j hj => by simpa using h3 j hj⟩
theorem find_first : ∀ {L : List Art} {q : Int} {k : Nat} (h : k < L.length), L[k].id = q → (∀ j (hj : j < k), (L[j]'(by omega)).id ≠ q) → findA L q = L[k].text
  | a :: L, q, 0, _, hi, _ => by
    show findA (a :: L) q = a.text
    rw [findA, if_pos (show a.id = q from hi)]
  | a :: L, q, k + 1, h, hi, hn => by
    have h0 : a.id ≠ q := hn 0 (by omega)
    show findA (a :: L) q = _
    rw [findA, if_neg h0, find_first (k := k) (by simpa using h) hi (fun j hj => hn (j + 1) (by omega))]
    rfl

set_option maxHeartbeats 2000000 in
theorem indexA_any (L : List Art) (w : World) (v : Value) (h : Arts w w.heap.size v L) (g : Nat) (lb : Array Value) (p : Art → Bool) (hp : PredA g lb p w) (eg : ∀ args w, (callFunc g args).run Try.prog w = .ok (.enter g args) w) :
    Calls Try.prog 66 #[v, .func (.func g) #[] lb] w (RetB (.int .i64 (idxA p L)) w) := by
  obtain ⟨A, c, rfl, hc, hm, hel⟩ := h
  unfold maxLen at hm
  have hlm : L.length ≤ 9223372036854775807 := by omega
  have HEL := Lib.hid hel
  have HP := Lib.hid hp
  clear hel hp
  go_enter Try.func66, Try.ntmps66
  go_wp2
  go_loopw [5, 8] (fun _ i wr => ∃ k : Nat, k ≤ L.length ∧ i = .int .i64 (k : Int) ∧ (∀ j (hj : j < L.length), j < k → p L[j] = false) ∧ Below w.heap.size w wr) (fun _ i _ => L.length - (RowKit.intOf i).toNat)
  case atStart => exact ⟨0, Nat.zero_le _, rfl, fun j _ hj => absurd hj (Nat.not_lt_zero _), Below.refl _ _⟩
  case round =>
    obtain ⟨k, hk, rfl, hn, hb⟩ := hrel
    have HN := Lib.hid hn
    have HB := Lib.hid hb
    clear hn
    by_cases hlt : k < L.length
    · obtain ⟨b, off, rfl, hblt, hcell⟩ := HEL.out (by omega)
      have hget : L[k]? = some L[k] := List.getElem?_eq_getElem hlt
      obtain ⟨c0, c1⟩ := arts_at hcell hget
      have x0 := (hb.cell (p := ⟨b, off + k * 2, none⟩) hblt).trans c0
      have x1 := (hb.cell (p := ⟨b, off + k * 2 + 1, none⟩) hblt).trans c1
      have hcall := HP.out wr L[k] hb
      clear hget hcell c0 c1 hb
      cases hq : p L[k] with
      | true =>
        have HQ := Lib.hid (idxA_hit hlt hq (fun j hj => HN.out j (by omega) hj))
        rw [hq] at hcall
        have HC := Lib.hid hcall
        generalize L[k] = e at *
        clear hcall hq
        go_wp2_with (go_at_fn g; refine (HC.out).mono ?_; rintro e' w' ⟨rfl, hb'⟩)
        go_ret
        exact ⟨by rw [HQ.out]; rfl, HB.out.trans (hb'.mono HB.out.size)⟩
      | false =>
        have HNN : Hid (∀ j (hj : j < L.length), j < k + 1 → p L[j] = false) := Lib.hid (fun j hj hjk => by
          by_cases e : j = k
          · subst e; exact hq
          · exact HN.out j hj (by omega))
        rw [hq] at hcall
        have HC := Lib.hid hcall
        generalize L[k] = e at hcall x0 x1 hq HC
        clear hcall hq
        go_wp2_with (go_at_fn g; refine (HC.out).mono ?_; rintro e' w' ⟨rfl, hb'⟩)
        go_roundw
        case rel => exact ⟨k + 1, by omega, by go_num, HNN.out, HB.out.trans (hb'.mono HB.out.size)⟩
        case measure => simp [RowKit.intOf]; omega
    · have hge : ¬ (k : Int) < (L.length : Int) := by omega
      have HQ := Lib.hid (idxA_none (p := p) (L := L) (fun j hj => HN.out j hj (by omega)))
      go_wp2
      go_ret
      exact ⟨by rw [HQ.out]; rfl, HB.out⟩

set_option maxHeartbeats 400000 in
/-- The closure of 'article': it has captured a number. -/
theorem isId_pred (q : Int) (B : Nat) (w : World) (hB : B < w.heap.size) (hc : w.cell? ⟨B, 0, none⟩ = some (.int .i64 q)) : PredA 92 #[.pointer (some ⟨B, 0, none⟩)] (fun a => decide (a.id = q)) w := by
  intro W x hb
  have x0 := (hb.cell (p := ⟨B, 0, none⟩) hB).trans hc
  have hlt := World.block_lt_of_cell? W ⟨B, 0, none⟩ x0
  have y0 := (((Below.refl W.heap.size W).alloc (Nat.le_refl _) (.cells #[.int .i64 x.id, .string x.text] 70)).cell (p := ⟨B, 0, none⟩) hlt).trans x0
  obtain ⟨r, hr⟩ : ∃ r, decide (x.id = q) = r := ⟨_, rfl⟩
  have hr2 : (x.id == q) = r := by rw [← hr]; by_cases h : x.id = q <;> simp [h]
  show Calls Try.prog 92 #[.agg #[.int .i64 x.id, .string x.text], .pointer (some ⟨B, 0, none⟩)] W (RetB (.bool (decide (x.id = q))) W)
  rw [hr]
  clear hr x0 hb
  go_enter Try.func92, Try.ntmps92
  go_wp2
  go_ret
  exact ⟨rfl, (Below.refl W.heap.size W).alloc (Nat.le_refl _) _⟩

theorem isId_enters : ∀ args w, (callFunc 92 args).run Try.prog w = .ok (.enter 92 args) w := enters_of Try.func92 (by kernel_rfl) rfl

set_option maxHeartbeats 1000000 in
theorem article_any (L : List Art) (q : Int) (w : World) (v : Value) (h : Arts w w.heap.size v L) :
    Calls Try.prog 64 #[v, .int .i64 q] w (RetB (.int .i64 (idxA (fun a => decide (a.id = q)) L)) w) := by
  have hmf : ∀ (fn : Fn) (first cap : Array Value) (w : World), (Instr.makeFunc fn first cap).run Try.prog w = .ok (.func fn first cap) w := fun _ _ _ _ => rfl
  have bW := (Below.refl w.heap.size w).alloc (Nat.le_refl _) (.cells #[.int .i64 q] 2)
  have HI := Lib.hid (indexA_any L (w.alloc (.cells #[.int .i64 q] 2)) v (SlR.on h (Pl.stays _) bW bW.size) 92 #[.pointer (some ⟨w.heap.size, 0, none⟩)] (fun a => decide (a.id = q)) (isId_pred q w.heap.size _ (by simp) (by simp [go_sem])) isId_enters)
  have HB := Lib.hid bW
  obtain ⟨A, c, rfl, _⟩ := h
  generalize idxA (fun a => decide (a.id = q)) L = z at HI ⊢
  clear bW
  go_enter Try.func64, Try.ntmps64
  go_wp2_with (fail)
  refine (HI.out).mono ?_
  rintro e w1 ⟨rfl, hb1⟩
  have HB1 := Lib.hid (HB.out.trans (hb1.mono HB.out.size))
  clear hb1
  go_wp2
  go_ret
  exact ⟨rfl, HB1.out⟩

set_option maxHeartbeats 1000000 in
theorem textOf_any (L : List Art) (q : Int) (w : World) (v : Value) (h : Arts w w.heap.size v L) :
    Calls Try.prog 63 #[v, .int .i64 q] w (RetB (.string (findA L q)) w) := by
  have HA := Lib.hid (article_any L q w v h)
  obtain ⟨A, c, rfl, hc, hm, hel⟩ := h
  unfold maxLen at hm
  rcases idx_cases (fun a => decide (a.id = q)) L with ⟨k, hk, hz, hp, hn⟩ | ⟨hz, hn⟩
  · obtain ⟨b, off, rfl, hblt, hcell⟩ := hel (by omega)
    obtain ⟨c0, c1⟩ := arts_at hcell (List.getElem?_eq_getElem hk)
    have HF := Lib.hid (find_first hk (of_decide_eq_true hp) (fun j hj => of_decide_eq_false (hn j hj)))
    have HC1 := Lib.hid c1
    have hk0 : ¬ ((k : Int) < 0) := by omega
    have hk1 : (0 : Int) ≤ (k : Int) := by omega
    rw [hz] at HA
    generalize L[k] = e at *
    clear hz hp hn hcell c0 c1 hel
    go_enter Try.func63, Try.ntmps63
    go_wp2_with (fail)
    refine (HA.out).mono ?_
    rintro e' w1 ⟨rfl, hb1⟩
    have x1 := (hb1.cell (p := ⟨b, off + k * 2 + 1, none⟩) hblt).trans HC1.out
    have HB1 := Lib.hid hb1
    clear hb1
    go_wp2
    go_ret
    exact ⟨by rw [HF.out]; rfl, HB1.out⟩
  · have HF := Lib.hid (findA_none (s := L) (i := q) (fun a ha => of_decide_eq_false (hn a ha)))
    rw [hz] at HA
    clear hz hn hel
    go_enter Try.func63, Try.ntmps63
    go_wp2_with (fail)
    refine (HA.out).mono ?_
    rintro e' w1 ⟨rfl, hb1⟩
    have HB1 := Lib.hid hb1
    clear hb1
    go_wp2
    go_ret
    exact ⟨by rw [HF.out]; rfl, HB1.out⟩
end Go.Proofs.Ytmgdodgofpapgaa

namespace Go.Proofs.Ytmgdodgofpapgaa
open Go.RowKit Go.Lib

def DelPost {α : Type} (f : α → List Value) (e : TypeId) (size base g n cap : Nat) (R : List α) (w : World) (en : Ending) (w' : World) : Prop :=
  en = .returned (.slice (some ⟨g, 0, none⟩) n cap) ∧ w'.ownsRow base e size (.slice (some ⟨g, 0, none⟩) n cap) n (R.flatMap f) ∧ w.grownBy w' (some g)

set_option maxRecDepth 100000 in
set_option maxHeartbeats 4000000 in
theorem delA_any (L : List Art) (i base g n cap : Nat) (w : World) (hn : L.length = n) (hi : i < n) (hn63 : n ≤ 1000000) (hown : w.ownsRow base 70 2 (.slice (some ⟨g, 0, none⟩) n cap) n (L.flatMap artCells)) :
    Calls Try.prog 65 #[.slice (some ⟨g, 0, none⟩) n cap, .int .i64 i, .int .i64 ((i : Int) + 1)] w (DelPost artCells 70 2 base g (n - 1) cap (L.take i ++ L.drop (i + 1)) w) := by
  obtain ⟨T, hB, hC, hnc, hcm, hbg, hxl⟩ := blk_of_own hown
  unfold maxLen at hcm
  have hCl : (L.flatMap artCells ++ T).length = cap * 2 := hC
  -- the cells that move to the left
  obtain ⟨news, hnews⟩ : ∃ news, news = (L.drop (i + 1)).flatMap artCells := ⟨_, rfl⟩
  have hnl : news.length = (n - (i + 1)) * 2 := by rw [hnews, flat_len (k := 2) artCells (fun _ => rfl), List.length_drop, hn]
  have hget : ∀ t u, news[t]? = some u → (L.flatMap artCells ++ T)[(i + 1) * 2 + t]? = some u := by
    intro t u ht
    have h1 : (L.flatMap artCells).drop ((i + 1) * 2) = news := by
      rw [hnews, flat_split artCells L (i + 1), List.drop_left']
      rw [flat_len (k := 2) artCells (fun _ => rfl), List.length_take, Nat.min_eq_left (by omega)]
    have htl : t < news.length := (List.getElem?_eq_some_iff.1 ht).1
    rw [List.getElem?_append_left (by rw [hxl]; omega), ← List.getElem?_drop, h1]
    exact ht
  have h1n : ∀ u ∈ news, u.oneCell' = true := by rw [hnews]; exact flat_one artCells (fun x v hv => art_one hv) _
  have hA : ∃ A : Addr, (if cap = i + 1 then some (⟨g, 0, none⟩ : Addr) else some ⟨g, (i + 1) * 2, none⟩) = some A ∧ Hid (∀ t u, news[t]? = some u → w.drew.cell? (A.add t) = some u) := by
    by_cases h : cap = i + 1
    · refine ⟨⟨g, 0, none⟩, by simp [h], fun t u hu => ?_⟩
      have h0 : news.length = 0 := by rw [hnl]; omega
      rw [List.length_eq_zero_iff.1 h0] at hu
      simp at hu
    · refine ⟨⟨g, (i + 1) * 2, none⟩, by simp [h], fun t u hu => ?_⟩
      rw [Addr.add_lit, hB.drew.cell]
      exact hget t u hu
  obtain ⟨A, hA, hsrc⟩ := hA
  have s3 : Hid (∀ t, t < news.length → (w.drew.cell? ⟨g, 0 + i * 2 + t, none⟩).isSome = true ∧ w.drew.frozen? ⟨g, 0 + i * 2 + t, none⟩ = false) := by
    intro t ht
    rw [hnl] at ht
    exact ⟨hB.drew.isSome (by rw [hCl]; omega), hB.drew.free (by rw [hCl]; omega)⟩
  obtain ⟨W1, hW1⟩ : ∃ W1, W1 = w.drew.setCells g (0 + i * 2) news := ⟨_, rfl⟩
  have hB1 : Blk W1 g 70 (splice (L.flatMap artCells ++ T) (i * 2) news) := by
    rw [hW1, Nat.zero_add]
    exact hB.drew.set Try.prog (i * 2) news (by rw [hCl, hnl]; omega) h1n
  have hl1 : (splice (L.flatMap artCells ++ T) (i * 2) news).length = cap * 2 := by rw [length_splice _ _ _ (by rw [hCl, hnl]; omega), hCl]
  have hz : ∀ w, (zeroValue 70).run Try.prog w = .ok (.agg #[.int .i64 0, .string ⟨#[]⟩]) w := Try.zeroValue70
  have hclr : ∀ ty, (Builtin.clear_ #[24] ty #[.slice (some ⟨g, (i + (n - (i + 1))) * 2, none⟩) (n - (i + (n - (i + 1)))) (cap - (i + (n - (i + 1))))]).run Try.prog W1 = .ok (.tuple #[]) (W1.setCells g ((i + (n - (i + 1))) * 2) (artCells ⟨0, ⟨#[]⟩⟩)) := fun ty => by
    have e1 : n - (i + (n - (i + 1))) = 1 := by omega
    rw [e1]
    exact run_clear_k W1 _ 70 ty _ (artCells ⟨0, ⟨#[]⟩⟩) Try.underlying24 hz g _ 1 _ (by omega) (by simp [Builtin.zeroCells, Value.cells, artCells]; try rfl) (fun v hv => art_one hv)
      (fun j hj => hB1.isSome (by have : j < 2 := hj; rw [hl1]; omega)) (fun j hj => hB1.free (by have : j < 2 := hj; rw [hl1]; omega))
  have hfin : DelPost artCells 70 2 base g (n - 1) cap (L.take i ++ L.drop (i + 1)) w (.returned (.slice (some ⟨g, 0, none⟩) (n - 1) cap)) (W1.setCells g ((i + (n - (i + 1))) * 2) (artCells ⟨0, ⟨#[]⟩⟩)) := by
    have ei : (i + (n - (i + 1))) * 2 = (L.length - 1) * 2 := by omega
    rw [ei]
    have hB2 := hB1.set Try.prog ((L.length - 1) * 2) (artCells ⟨0, ⟨#[]⟩⟩) (by rw [hl1]; show (L.length - 1) * 2 + 2 ≤ _; omega) (fun v hv => art_one hv)
    refine ⟨rfl, own_of_blk hB2 (by rw [length_splice _ _ _ (by rw [hl1]; show (L.length - 1) * 2 + 2 ≤ _; omega), hl1]) ?_ ?_ (by omega) (by unfold maxLen; omega) hbg, ?_⟩
    · rw [hnews, ← hn]
      exact cells_del artCells (fun _ => rfl) L T _ i (by omega) rfl (by omega)
    · rw [flat_len (k := 2) artCells (fun _ => rfl), List.length_append, List.length_take, List.length_drop]
      congr 1
      omega
    · have g1 : w.grownBy W1 (some g) := by
        rw [hW1, Nat.zero_add]
        have := grown_set Try.prog hB.drew (i * 2) news (by rw [hCl, hnl]; omega) h1n
        exact ⟨this.os, this.tape, this.output, this.size, this.block⟩
      have g2 := grown_set Try.prog hB1 ((L.length - 1) * 2) (artCells ⟨0, ⟨#[]⟩⟩) (by rw [hl1]; show (L.length - 1) * 2 + 2 ≤ _; omega) (fun v hv => art_one hv)
      exact only_trans g1 g2
  have HFIN := Lib.hid hfin
  have hW : Hid (W1 = w.drew.setCells g (0 + i * 2) news) := hW1
  have s1 : Hid (news.length = (n - (i + 1)) * 2) := hnl
  have s2 : Hid (∀ u ∈ news, u.oneCell' = true) := h1n
  have hic : i ≤ cap := by omega
  have hb1 : (0 : Int) ≤ (i : Int) + 1 := by omega
  have hb2 : (i : Int) + 1 ≤ (n : Int) := by omega
  have hjc : i + 1 ≤ cap := by omega
  obtain ⟨i0, hinfo, hz0, hz1, hz2⟩ := info_parts Try.infoA
  have HN := Lib.hid hn
  clear hW1 hB1 hl1 hfin hB hC hCl hget hnews hnl h1n hown hxl hbg hn
  go_enter Try.func65, Try.ntmps65
  go_wp2_with (fail)
  go_region_law (refine step_append_room rfl (.tmp 22) (.tmp 25) 24 rfl 70 i0 2 Try.underlying24 hinfo hz1 g 0 i cap (by simp [Act.eval, Act.put]) A (n - (i + 1)) (cap - (i + 1)) news (by simp [Act.eval, Act.put]) s1.out hsrc.out s2.out (by omega) s3.out ?_; rw [← hW.out])
  go_wp2
  go_ret
  have e1 : i + (n - (i + 1)) = n - 1 := by omega
  have h := HFIN.out
  rw [e1] at h ⊢
  exact h
end Go.Proofs.Ytmgdodgofpapgaa

namespace Go.Proofs.Ytmgdodgofpapgaa
open Go.RowKit Go.Lib

theorem cells_ins_new {α : Type} (f : α → List Value) {k : Nat} (hf : ∀ x, (f x).length = k) (L : List α) (a : α) (Z : List Value) (i : Nat) (hi : i ≤ L.length) :
    (splice (splice ((L.take i).flatMap f ++ Z) (i * k) (f a)) ((i + 1) * k) ((L.drop i).flatMap f)).take ((L.length + 1) * k) = (L.take i ++ a :: L.drop i).flatMap f := by
  have h1 : ((L.take i).flatMap f).length = i * k := by rw [flat_len f hf, List.length_take, Nat.min_eq_left hi]
  have h2 : splice ((L.take i).flatMap f ++ Z) (i * k) (f a) = ((L.take i).flatMap f ++ f a) ++ ((L.take i).flatMap f ++ Z).drop (i * k + (f a).length) := by
    unfold splice
    rw [List.take_left' h1, List.append_assoc]
  have h3 : ((L.take i).flatMap f ++ f a).length = (i + 1) * k := by rw [List.length_append, h1, hf, Nat.succ_mul]
  have h4 : ((L.take i).flatMap f ++ f a ++ (L.drop i).flatMap f).length = (L.length + 1) * k := by
    rw [List.length_append, h3, flat_len f hf, List.length_drop, ← Nat.add_mul]
    congr 1
    omega
  rw [h2]
  unfold splice
  rw [List.take_left' h3, ← List.append_assoc, List.take_left' h4]
  simp
theorem cells_ins_room {α : Type} (f : α → List Value) {k : Nat} (hf : ∀ x, (f x).length = k) (L : List α) (a : α) (T : List Value) (i : Nat) (hi : i ≤ L.length) (hT : k ≤ T.length) :
    (splice (splice (L.flatMap f ++ T) ((i + 1) * k) ((L.drop i).flatMap f)) (i * k) (f a)).take ((L.length + 1) * k) = (L.take i ++ a :: L.drop i).flatMap f := by
  have h1 : ((L.take i).flatMap f).length = i * k := by rw [flat_len f hf, List.length_take, Nat.min_eq_left hi]
  have hd : ((L.drop i).flatMap f).length = (L.length - i) * k := by rw [flat_len f hf, List.length_drop]
  have hfl : (L.flatMap f ++ T).length = L.length * k + T.length := by rw [List.length_append, flat_len f hf]
  have hk : (i + 1) * k = i * k + k := Nat.succ_mul _ _
  have hs : i * k + (L.length - i) * k = L.length * k := by rw [← Nat.add_mul]; congr 1; omega
  obtain ⟨C, hC⟩ : ∃ C, C = splice (L.flatMap f ++ T) ((i + 1) * k) ((L.drop i).flatMap f) := ⟨_, rfl⟩
  have hCt : C.take (i * k) = (L.take i).flatMap f := by
    rw [hC]
    unfold splice
    rw [List.take_append_of_le_length (by rw [List.length_take]; omega), List.take_take, Nat.min_eq_left (by omega), flat_split f L i, List.append_assoc, List.take_left' h1]
  have hCd : C.drop (i * k + k) = (L.drop i).flatMap f ++ (L.flatMap f ++ T).drop ((i + 1) * k + ((L.drop i).flatMap f).length) := by
    rw [hC]
    unfold splice
    rw [List.drop_left' (by rw [List.length_take]; omega)]
  rw [← hC]
  unfold splice
  rw [hCt, hf, hCd]
  have h4 : ((L.take i).flatMap f ++ f a ++ (L.drop i).flatMap f).length = (L.length + 1) * k := by
    rw [List.length_append, List.length_append, h1, hf, hd, Nat.succ_mul]
    omega
  rw [← List.append_assoc, ← List.append_assoc, List.take_left' h4]
  simp

def InsPost {α : Type} (f : α → List Value) (e : TypeId) (size base g n : Nat) (R : List α) (w : World) (en : Ending) (w' : World) : Prop :=
  ∃ v, en = .returned v ∧ w'.ownsRow base e size v n (R.flatMap f) ∧ v ≠ .slice none 0 0 ∧ Only g w w'

set_option maxRecDepth 100000 in
set_option maxHeartbeats 4000000 in
/-- At the end. -/
theorem insA_end (L : List Art) (a : Art) (base g n cap vb vc : Nat) (w : World) (_hn : L.length = n) (hn63 : n ≤ 1000000) (hown : w.ownsRow base 70 2 (.slice (some ⟨g, 0, none⟩) n cap) n (L.flatMap artCells)) (hv : Blk w vb 70 (artCells a)) (hbw : base ≤ w.heap.size) :
    Calls Try.prog 68 #[.slice (some ⟨g, 0, none⟩) n cap, .int .i64 n, .slice (some ⟨vb, 0, none⟩) 1 vc] w (InsPost artCells 70 2 base g (n + 1) (L ++ [a]) w) := by
  obtain ⟨T, hB, hC, hnc, hcm, hbg, hxl⟩ := blk_of_own hown
  unfold maxLen at hcm
  have HV : Hid (∀ j u, (artCells a)[j]? = some u → w.cell? ((⟨vb, 0, none⟩ : Addr).add j) = some u) := Lib.hid (fun j u hj => by rw [Addr.add_lit, hv.cell, Nat.zero_add]; exact hj)
  have HOWN := Lib.hid hown
  obtain ⟨i0, hi, hz0, hz1, hz2⟩ := info_parts Try.infoA
  clear hB hC hbg hxl hown hv _hn
  by_cases hcn : cap = n
  · subst hcn
    go_enter Try.func68, Try.ntmps68
    go_wp2_with (at_builtin; refine wpList_append_own _ rfl _ _ 24 rfl base 70 i0 (.agg #[.int .i64 0, .string ⟨#[]⟩]) 2 24 Try.underlying24 hi hz0 hz1 hz2 rfl (by decide) _ _ _ rfl HOWN.out ⟨vb, 0, none⟩ 1 vc (artCells a) rfl rfl HV.out (fun u hu => art_one hu) ?c3 ?c4 hbw ?_)
    case c3 => unfold maxLen; omega
    case c4 => omega
    · intro v' w5 hown' hgrow hiff
      have HO := Lib.hid hown'
      have HNN : Hid (v' ≠ .slice none 0 0) := Lib.hid (by simpa using hiff)
      have HG := Lib.hid hgrow
      clear hown' hgrow hiff
      go_wp2
      go_ret
      exact ⟨v', rfl, by rw [flat_snoc]; exact HO.out, HNN.out, HG.out⟩
  · go_enter Try.func68, Try.ntmps68
    go_wp2_with (at_builtin; refine wpList_append_own _ rfl _ _ 24 rfl base 70 i0 (.agg #[.int .i64 0, .string ⟨#[]⟩]) 2 24 Try.underlying24 hi hz0 hz1 hz2 rfl (by decide) _ _ _ rfl HOWN.out ⟨vb, 0, none⟩ 1 vc (artCells a) rfl rfl HV.out (fun u hu => art_one hu) ?c3 ?c4 hbw ?_)
    case c3 => unfold maxLen; omega
    case c4 => omega
    · intro v' w5 hown' hgrow hiff
      have HO := Lib.hid hown'
      have HNN : Hid (v' ≠ .slice none 0 0) := Lib.hid (by simpa using hiff)
      have HG := Lib.hid hgrow
      clear hown' hgrow hiff
      go_wp2
      go_ret
      exact ⟨v', rfl, by rw [flat_snoc]; exact HO.out, HNN.out, HG.out⟩

set_option maxRecDepth 100000 in
set_option maxHeartbeats 4000000 in
/-- In the midst, where there is no room. -/
theorem insA_new (L : List Art) (a : Art) (i base g n cap vb vc : Nat) (w : World) (hn : L.length = n) (hi : i < n) (hroom : cap < n + 1) (hn63 : n ≤ 1000000) (hown : w.ownsRow base 70 2 (.slice (some ⟨g, 0, none⟩) n cap) n (L.flatMap artCells)) (hv : Blk w vb 70 (artCells a)) (hbw : base ≤ w.heap.size) :
    Calls Try.prog 68 #[.slice (some ⟨g, 0, none⟩) n cap, .int .i64 i, .slice (some ⟨vb, 0, none⟩) 1 vc] w (InsPost artCells 70 2 base g (n + 1) (L.take i ++ a :: L.drop i) w) := by
  obtain ⟨T, hB, hC, hnc, hcm, hbg, hxl⟩ := blk_of_own hown
  unfold maxLen at hcm
  have hlf : ∀ x : Art, (artCells x).length = 2 := fun _ => rfl
  have h1c : ∀ x : Art, ∀ v ∈ artCells x, v.oneCell' = true := fun x v hv => art_one hv
  obtain ⟨i0, hi0, hz0, hzs, hzb⟩ := info_parts Try.infoA
  have hsz : (Try.prog.info? 70).map (·.size) = some 2 := by rw [hi0]; simp [hzs]
  have hold : (Builtin.firstCells i0.size i (.slice (some ⟨g, 0, none⟩) i cap)).run Try.prog w.drew = .ok ((L.take i).flatMap artCells).toArray w.drew := by
    rw [hzs]
    exact run_firstCells_some w.drew 2 i ⟨g, 0, none⟩ i cap ((L.take i).flatMap artCells) (by rw [flat_len (k := 2) artCells hlf, List.length_take, Nat.min_eq_left (by omega)]) (fun j v hj => by
      rw [Addr.add_lit, hB.drew.cell, Nat.zero_add, flat_split artCells L i, List.append_assoc, List.getElem?_append_left (List.getElem?_eq_some_iff.1 hj).1]
      exact hj)
  obtain ⟨G, hG⟩ : ∃ G, G = grownCap w (n + 1) cap 70 := ⟨_, rfl⟩
  have hGn : n + 1 ≤ G := by rw [hG]; exact grownCap_ge w _ _ _
  have hG63 : G ≤ maxLen := by rw [hG]; exact grownCap_le_maxLen w (n + 1) cap _ (by unfold maxLen; omega)
  obtain ⟨Z, hZ⟩ : ∃ Z : List Value, Z = (Builtin.zeroCells (Value.agg #[.int .i64 0, .string ⟨#[]⟩]).cells (n + 1 - i) ++ Builtin.zeroCells (Value.agg #[.int .i64 0, .string ⟨#[]⟩]).cells (G - (n + 1))).toList := ⟨_, rfl⟩
  have hZl : Z.length = (G - i) * 2 := by
    rw [hZ]
    simp [Builtin.zeroCells, Value.cells]
    omega
  obtain ⟨W1, hW1⟩ : ∃ W1, W1 = w.drew.alloc (.cells ((L.take i).flatMap artCells ++ Z).toArray 70) := ⟨_, rfl⟩
  have hkk : (n : Int) + 1 - (i : Int) = ((n + 1 - i : Nat) : Int) := by omega
  have hik : i + (n + 1 - i) = n + 1 := by omega
  have hrz : ∀ ty, (Builtin.append_ #[24, 3] ty #[.slice (some ⟨g, 0, none⟩) i cap, .int .i64 ((n : Int) + 1 - (i : Int))]).run Try.prog w = .ok (.slice (some ⟨w.heap.size, 0, none⟩) (n + 1) G) W1 := fun ty => by
    have h := Lib.run_append_grow_zeros (P := Try.prog) w 24 3 ty 70 i0 _ .i64 .i64 Try.underlying24 Try.underlying3 hi0 hz0 (some ⟨g, 0, none⟩) i cap ((L.take i).flatMap artCells) hold (n + 1 - i) (by omega) (by omega) (by omega) (by omega) (by rw [hzb]; omega) (by rw [hzb, hik]; exact growslice_fits hroom (by omega))
    rw [hik, ← hG] at h
    rw [hkk, h, hW1, hZ]
    congr 3
    apply Array.ext'
    simp
  have hbl1 : Blk W1 w.heap.size 70 ((L.take i).flatMap artCells ++ Z) := by
    rw [hW1]
    exact alloc_at w.drew _
  have hl1 : ((L.take i).flatMap artCells ++ Z).length = G * 2 := by
    rw [List.length_append, flat_len (k := 2) artCells hlf, List.length_take, Nat.min_eq_left (by omega), hZl]
    omega
  have hg1 : w.grownBy W1 none := by
    rw [hW1]
    exact ⟨rfl, rfl, rfl, by simp, fun k hk _ => heap_alloc_old w.drew _ hk⟩
  have hbN : g ≠ w.heap.size := by have := hB.lt; omega
  have hvN : vb ≠ w.heap.size := by have := hv.lt; omega
  have hv1 : Blk W1 vb 70 (artCells a) := hv.grown hg1 (by simp)
  obtain ⟨W2, hW2⟩ : ∃ W2, W2 = W1.setCells w.heap.size (i * 2) (artCells a) := ⟨_, rfl⟩
  have hcpA : ∀ ty dc, (Builtin.copy_ #[24, 24] ty #[.slice (some ⟨w.heap.size, i * 2, none⟩) (n + 1 - i) dc, .slice (some ⟨vb, 0, none⟩) 1 vc]).run Try.prog W1 = .ok (goInt 1) W2 := fun ty dc => by
    have h := run_copy_k (P := Try.prog) W1 24 24 ty 70 2 w.heap.size (i * 2) (n + 1 - i) dc ⟨vb, 0, none⟩ 1 vc (artCells a) Try.underlying24 hsz (by rw [hlf]; simp only [Nat.min_def]; split <;> omega)
      (fun j v hj => by rw [Addr.add_lit, hv1.cell, Nat.zero_add]; exact hj)
      (fun j hj => hbl1.isSome (by rw [hlf] at hj; rw [hl1]; omega)) (fun j hj => hbl1.free (by rw [hlf] at hj; rw [hl1]; omega)) (h1c a)
    rw [h, hW2, show Nat.min 1 (n + 1 - i) = 1 by simp only [Nat.min_def]; split <;> omega]
    rfl
  have hbl2 := hbl1.set Try.prog (i * 2) (artCells a) (by rw [hl1, hlf]; omega) (h1c a)
  have hl2 : (splice ((L.take i).flatMap artCells ++ Z) (i * 2) (artCells a)).length = G * 2 := by rw [length_splice _ _ _ (by rw [hl1, hlf]; omega), hl1]
  have hg2 := grown_set Try.prog hbl1 (i * 2) (artCells a) (by rw [hl1, hlf]; omega) (h1c a)
  rw [← hW2] at hbl2 hg2
  have hB2 : Blk W2.drew g 70 (L.flatMap artCells ++ T) := ((hB.grown hg1 (by simp)).grown hg2 (by simpa using fun e => hbN e.symm)).drew
  obtain ⟨W3, hW3⟩ : ∃ W3, W3 = W2.drew.setCells w.heap.size ((i + 1) * 2) ((L.drop i).flatMap artCells) := ⟨_, rfl⟩
  have hdl : ((L.drop i).flatMap artCells).length = (n - i) * 2 := by rw [flat_len (k := 2) artCells hlf, List.length_drop, hn]
  have hcpB : ∀ ty dc sc, (Builtin.copy_ #[24, 24] ty #[.slice (some ⟨w.heap.size, (i + 1) * 2, none⟩) (n + 1 - (i + 1)) dc, .slice (some ⟨g, i * 2, none⟩) (n - i) sc]).run Try.prog W2.drew = .ok (goInt ((n - i : Nat) : Int)) W3 := fun ty dc sc => by
    have h := run_copy_k (P := Try.prog) W2.drew 24 24 ty 70 2 w.heap.size ((i + 1) * 2) (n + 1 - (i + 1)) dc ⟨g, i * 2, none⟩ (n - i) sc ((L.drop i).flatMap artCells) Try.underlying24 hsz (by rw [hdl]; simp only [Nat.min_def]; split <;> omega)
      (fun j v hj => by
        rw [Addr.add_lit, hB2.cell, flat_split artCells L i, List.append_assoc, List.getElem?_append_right (by rw [flat_len (k := 2) artCells hlf, List.length_take, Nat.min_eq_left (by omega)]; omega), flat_len (k := 2) artCells hlf, List.length_take, Nat.min_eq_left (by omega), Nat.add_sub_cancel_left, List.getElem?_append_left (List.getElem?_eq_some_iff.1 hj).1]
        exact hj)
      (fun j hj => hbl2.drew.isSome (by rw [hdl] at hj; rw [hl2]; omega)) (fun j hj => hbl2.drew.free (by rw [hdl] at hj; rw [hl2]; omega)) (flat_one artCells (fun x v hv => h1c x v hv) _)
    rw [h, hW3, show Nat.min (n - i) (n + 1 - (i + 1)) = n - i by simp only [Nat.min_def]; split <;> omega]
  have hfin : InsPost artCells 70 2 base g (n + 1) (L.take i ++ a :: L.drop i) w (.returned (.slice (some ⟨w.heap.size, 0, none⟩) (n + 1) G)) W3 := by
    have hbl3 := hbl2.drew.set Try.prog ((i + 1) * 2) ((L.drop i).flatMap artCells) (by rw [hl2, hdl]; omega) (flat_one artCells (fun x v hv => h1c x v hv) _)
    have hg3 := grown_set Try.prog hbl2.drew ((i + 1) * 2) ((L.drop i).flatMap artCells) (by rw [hl2, hdl]; omega) (flat_one artCells (fun x v hv => h1c x v hv) _)
    rw [← hW3] at hbl3 hg3
    refine ⟨_, rfl, own_of_blk hbl3 (by rw [length_splice _ _ _ (by rw [hl2, hdl]; omega), hl2]) ?_ ?_ hGn hG63 hbw, by simp, ?_⟩
    · rw [← hn]
      exact cells_ins_new artCells hlf L a Z i (by omega)
    · rw [flat_len (k := 2) artCells hlf, List.length_append, List.length_cons, List.length_take, List.length_drop]
      congr 1
      omega
    · refine ⟨hg3.os.trans (hg2.os.trans hg1.os), hg3.tape.trans (hg2.tape.trans hg1.tape), hg3.output.trans (hg2.output.trans hg1.output), Nat.le_trans hg1.size (Nat.le_trans hg2.size hg3.size), fun k hk hne => ?_⟩
      have hkN : some k ≠ some w.heap.size := fun e => by injection e; omega
      have hz1' := hg1.size
      have hz2' := hg2.size
      have a1 := hg1.block k hk (by simp)
      have a2 := hg2.block k (by omega) hkN
      have a3 := hg3.block k (by show k < W2.heap.size; omega) hkN
      exact a3.trans (a2.trans a1)
  have HFIN := Lib.hid hfin
  unfold maxLen at hG63
  have hw1 : IntKind.i64.wrap ((i : Int) + 1) = (i : Int) + 1 := by rw [IntKind.wrap_i64]; omega
  have hz2' : ¬ ((i : Int) = (n : Int)) := by omega
  have hz3 : (cap : Int) < (n : Int) + 1 := by omega
  have hGi : ¬ (G = i) := by omega
  have hGim : ¬ (G = i + 1) := by omega
  have hci : ¬ (cap = i) := by omega
  have hb1 : (0 : Int) ≤ (i : Int) + 1 := by omega
  have hin : i ≤ n := by omega
  have htn : ((i : Int) + 1).toNat = i + 1 := by omega
  have hb3 : (i : Int) ≤ (n : Int) := by omega
  have hb4 : (i : Int) + 1 ≤ (n : Int) + 1 := by omega
  clear hkk hik hold hG hZ hZl hW1 hbl1 hl1 hg1 hv1 hW2 hbl2 hl2 hg2 hB2 hW3 hdl hfin hB hC hown hv hbg hxl hn hlf h1c hsz hi0 hz0 hzs hzb
  go_enter Try.func68, Try.ntmps68
  go_wp2_with (first
    | (at_builtin; refine Lib.wpList_append_run _ rfl _ _ _ _ rfl _ _ rfl rfl _ _ (hrz _) ?_)
    | (at_builtin; refine wpList_copy_run2 _ rfl _ _ 24 24 rfl _ _ rfl rfl (hcpA _ _) ?_))
  go_region_law (refine step_copy_run2 rfl _ _ 24 24 rfl (.slice (some ⟨w.heap.size, (i + 1) * 2, none⟩) (n + 1 - (i + 1)) (G - (i + 1))) (.slice (some ⟨g, i * 2, none⟩) (n - i) (cap - i)) (by simp [Act.eval, Act.put]) (by simp [Act.eval, Act.put]) (hcpB _ _ _) ?_)
  go_wp2
  go_ret
  exact HFIN.out

set_option maxRecDepth 100000 in
set_option maxHeartbeats 4000000 in
/-- In the midst, where there is room. -/
theorem insA_room (L : List Art) (a : Art) (i base g n cap vb vc : Nat) (w : World) (hn : L.length = n) (hi : i < n) (hroom : n + 1 ≤ cap) (hn63 : n ≤ 1000000) (hown : w.ownsRow base 70 2 (.slice (some ⟨g, 0, none⟩) n cap) n (L.flatMap artCells)) (hv : Blk w vb 70 (artCells a)) (hvb : vb ≠ g) :
    Calls Try.prog 68 #[.slice (some ⟨g, 0, none⟩) n cap, .int .i64 i, .slice (some ⟨vb, 0, none⟩) 1 vc] w (InsPost artCells 70 2 base g (n + 1) (L.take i ++ a :: L.drop i) w) := by
  obtain ⟨T, hB, hC, hnc, hcm, hbg, hxl⟩ := blk_of_own hown
  have hcm' := hcm
  unfold maxLen at hcm
  have hlf : ∀ x : Art, (artCells x).length = 2 := fun _ => rfl
  have h1c : ∀ x : Art, ∀ v ∈ artCells x, v.oneCell' = true := fun x v hv => art_one hv
  obtain ⟨i0, hi0, hz0, hzs, hzb⟩ := info_parts Try.infoA
  have hsz : (Try.prog.info? 70).map (·.size) = some 2 := by rw [hi0]; simp [hzs]
  have hTl : T.length = (cap - n) * 2 := by rw [List.length_append, hxl] at hC; omega
  have hov : ∀ lb cb, (callFunc 93 #[.slice (some ⟨vb, 0, none⟩) 1 vc, .slice (some ⟨g, (i + 1) * 2, none⟩) lb cb]).run Try.prog w = .ok (.value (.bool false)) w := fun lb cb => by
    rw [run_callFunc_extern Try.func93 (by kernel_rfl) (by kernel_rfl) (by kernel_rfl) (e := Extern.SlicesOverlaps.overlaps #[24, 24] #[4]) (by kernel_rfl),
      Lib.run_overlaps_apart w 24 4 70 Try.underlying24 2 Try.sizeOf70 ⟨vb, 0, none⟩ ⟨g, (i + 1) * 2, none⟩ 1 vc lb cb hvb 70 70 2 (cap * 2) (by unfold Blk at hv; simp [World.shape?, hv, artCells]) (by unfold Blk at hB; simp [World.shape?, hB]; simpa using hC) (by omega) (hv.free (by rw [hlf]; omega)) (by unfold Blk at hv; simp [World.frozen?, hv])]
    rfl
  have hdl : ((L.drop i).flatMap artCells).length = (n - i) * 2 := by rw [flat_len (k := 2) artCells hlf, List.length_drop, hn]
  obtain ⟨W1, hW1⟩ : ∃ W1, W1 = w.drew.setCells g ((i + 1) * 2) ((L.drop i).flatMap artCells) := ⟨_, rfl⟩
  have h1d := flat_one artCells (P := fun v => v.oneCell' = true) (fun x v hv => h1c x v hv) (L.drop i)
  have hcp1 : ∀ ty dc sc, (Builtin.copy_ #[24, 24] ty #[.slice (some ⟨g, (i + 1) * 2, none⟩) (n + 1 - (i + 1)) dc, .slice (some ⟨g, i * 2, none⟩) (n + 1 - i) sc]).run Try.prog w.drew = .ok (goInt ((n - i : Nat) : Int)) W1 := fun ty dc sc => by
    have h := run_copy_k (P := Try.prog) w.drew 24 24 ty 70 2 g ((i + 1) * 2) (n + 1 - (i + 1)) dc ⟨g, i * 2, none⟩ (n + 1 - i) sc ((L.drop i).flatMap artCells) Try.underlying24 hsz (by rw [hdl]; simp only [Nat.min_def]; split <;> omega)
      (fun j v hj => by
        rw [Addr.add_lit, hB.drew.cell, flat_split artCells L i, List.append_assoc, List.getElem?_append_right (by rw [flat_len (k := 2) artCells hlf, List.length_take, Nat.min_eq_left (by omega)]; omega), flat_len (k := 2) artCells hlf, List.length_take, Nat.min_eq_left (by omega), Nat.add_sub_cancel_left, List.getElem?_append_left (List.getElem?_eq_some_iff.1 hj).1]
        exact hj)
      (fun j hj => hB.drew.isSome (by rw [hdl] at hj; rw [hC]; omega)) (fun j hj => hB.drew.free (by rw [hdl] at hj; rw [hC]; omega)) h1d
    rw [h, hW1, show Nat.min (n + 1 - i) (n + 1 - (i + 1)) = n - i by simp only [Nat.min_def]; split <;> omega]
  have hbl1 := hB.drew.set Try.prog ((i + 1) * 2) ((L.drop i).flatMap artCells) (by rw [hC, hdl]; omega) h1d
  have hl1 : (splice (L.flatMap artCells ++ T) ((i + 1) * 2) ((L.drop i).flatMap artCells)).length = cap * 2 := by rw [length_splice _ _ _ (by rw [hC, hdl]; omega), hC]
  have hg1 := grown_set Try.prog hB.drew ((i + 1) * 2) ((L.drop i).flatMap artCells) (by rw [hC, hdl]; omega) h1d
  rw [← hW1] at hbl1 hg1
  have hv1 : Blk W1 vb 70 (artCells a) := Blk.grown hv.drew hg1 (by simpa using fun e => hvb e.symm)
  obtain ⟨W2, hW2⟩ : ∃ W2, W2 = W1.setCells g (i * 2) (artCells a) := ⟨_, rfl⟩
  have hcp2 : ∀ ty dc, (Builtin.copy_ #[24, 24] ty #[.slice (some ⟨g, i * 2, none⟩) (n + 1 - i) dc, .slice (some ⟨vb, 0, none⟩) 1 vc]).run Try.prog W1 = .ok (goInt 1) W2 := fun ty dc => by
    have h := run_copy_k (P := Try.prog) W1 24 24 ty 70 2 g (i * 2) (n + 1 - i) dc ⟨vb, 0, none⟩ 1 vc (artCells a) Try.underlying24 hsz (by rw [hlf]; simp only [Nat.min_def]; split <;> omega)
      (fun j v hj => by rw [Addr.add_lit, hv1.cell, Nat.zero_add]; exact hj)
      (fun j hj => hbl1.isSome (by rw [hlf] at hj; rw [hl1]; omega)) (fun j hj => hbl1.free (by rw [hlf] at hj; rw [hl1]; omega)) (h1c a)
    rw [h, hW2, show Nat.min 1 (n + 1 - i) = 1 by simp only [Nat.min_def]; split <;> omega]
    rfl
  have hfin : InsPost artCells 70 2 base g (n + 1) (L.take i ++ a :: L.drop i) w (.returned (.slice (some ⟨g, 0, none⟩) (n + 1) cap)) W2 := by
    have hbl2 := hbl1.set Try.prog (i * 2) (artCells a) (by rw [hl1, hlf]; omega) (h1c a)
    have hg2 := grown_set Try.prog hbl1 (i * 2) (artCells a) (by rw [hl1, hlf]; omega) (h1c a)
    rw [← hW2] at hbl2 hg2
    refine ⟨_, rfl, own_of_blk hbl2 (by rw [length_splice _ _ _ (by rw [hl1, hlf]; omega), hl1]) ?_ ?_ hroom hcm' hbg, by simp, ?_⟩
    · rw [← hn]
      exact cells_ins_room artCells hlf L a T i (by omega) (by omega)
    · rw [flat_len (k := 2) artCells hlf, List.length_append, List.length_cons, List.length_take, List.length_drop]
      congr 1
      omega
    · exact only_trans ⟨hg1.os, hg1.tape, hg1.output, hg1.size, hg1.block⟩ hg2
  have HFIN := Lib.hid hfin
  have hw1 : IntKind.i64.wrap ((i : Int) + 1) = (i : Int) + 1 := by rw [IntKind.wrap_i64]; omega
  have hz2' : ¬ ((i : Int) = (n : Int)) := by omega
  have hz3 : ¬ ((cap : Int) < (n : Int) + 1) := by omega
  have hb1 : (0 : Int) ≤ (i : Int) + 1 := by omega
  have hin : i ≤ n := by omega
  have hin1 : i ≤ n + 1 := by omega
  have htn : ((i : Int) + 1).toNat = i + 1 := by omega
  have hb2 : ¬ (cap = i + 1) := by omega
  have hb3 : (i : Int) + 1 ≤ (n : Int) + 1 := by omega
  have hb4 : ¬ (cap = i) := by omega
  have hb5 : (i : Int) ≤ (n : Int) + 1 := by omega
  clear hdl hW1 h1d hbl1 hl1 hg1 hv1 hW2 hfin hB hC hown hv hbg hxl hn hlf h1c hsz hi0 hz0 hzs hzb hTl hcm'
  go_enter Try.func68, Try.ntmps68
  go_wp2_with (simp only [hov])
  go_region_law (refine step_copy_run2 rfl _ _ 24 24 rfl (.slice (some ⟨g, (i + 1) * 2, none⟩) (n + 1 - (i + 1)) (cap - (i + 1))) (.slice (some ⟨g, i * 2, none⟩) (n + 1 - i) (cap - i)) (by simp [Act.eval, Act.put]) (by simp [Act.eval, Act.put]) (hcp1 _ _ _) ?_)
  go_wp2_with (at_builtin; refine wpList_copy_run2 _ rfl _ _ 24 24 rfl _ _ rfl rfl (hcp2 _ _) ?_)
  go_ret
  exact HFIN.out

theorem insA_any (L : List Art) (a : Art) (i base g n cap vb vc : Nat) (w : World) (hn : L.length = n) (hi : i ≤ n) (hn63 : n ≤ 1000000) (hown : w.ownsRow base 70 2 (.slice (some ⟨g, 0, none⟩) n cap) n (L.flatMap artCells)) (hv : Blk w vb 70 (artCells a)) (hvb : vb ≠ g) (hbw : base ≤ w.heap.size) :
    Calls Try.prog 68 #[.slice (some ⟨g, 0, none⟩) n cap, .int .i64 i, .slice (some ⟨vb, 0, none⟩) 1 vc] w (InsPost artCells 70 2 base g (n + 1) (L.take i ++ a :: L.drop i) w) := by
  rcases Nat.lt_or_ge i n with hlt | hge
  · by_cases hroom : n + 1 ≤ cap
    · exact insA_room L a i base g n cap vb vc w hn hlt hroom hn63 hown hv hvb
    · exact insA_new L a i base g n cap vb vc w hn hlt (by omega) hn63 hown hv hbw
  · obtain rfl : i = n := by omega
    have e : L.take i ++ a :: L.drop i = L ++ [a] := by rw [List.take_of_length_le (by omega), List.drop_eq_nil_of_le (by omega)]
    rw [e]
    exact insA_end L a base g i cap vb vc w hn hn63 hown hv hbw
end Go.Proofs.Ytmgdodgofpapgaa

namespace Go.Proofs.Ytmgdodgofpapgaa
open Go.RowKit Go.Lib

theorem rise_take {P : List Edit} {k : Nat} {e : Edit} (hP : RiseE P) (hk : P[k]? = some e) : P.take (k + 1) = P.take k ++ [e] ∧ RiseE (P.take k ++ [e]) := by
  obtain ⟨h1, h2⟩ := List.getElem?_eq_some_iff.1 hk
  have e1 : P.take (k + 1) = P.take k ++ [e] := by rw [List.take_succ_eq_append_getElem h1, h2]
  refine ⟨e1, ?_⟩
  rw [← e1]
  exact hP.sublist (List.take_sublist _ _)
theorem find_now {S R : List Art} {P : List Edit} {k : Nat} {e : Edit} (hP : RiseE P) (hk : P[k]? = some e) (hB : Becomes S (P.take k) R) : findA R e.id = findA S e.id := by
  rw [hB.find, target_old]
  intro a ha
  have h := (rise_take hP hk).2
  unfold RiseE at h
  rw [List.pairwise_append] at h
  have := h.2.2 a ha e (by simp)
  omega
theorem has_id {S R : List Art} {P : List Edit} {k : Nat} {e : Edit} (hP : RiseE P) (hk : P[k]? = some e) (hB : Becomes S (P.take k) R) (hf : (findA S e.id).toList = e.old.toList) (ho : e.old.toList ≠ []) : ∃ j, ∃ h : j < R.length, idxA (fun a => decide (a.id = e.id)) R = j ∧ R[j].id = e.id := by
  rcases idx_cases (fun a => decide (a.id = e.id)) R with ⟨j, hj, h1, h2, _⟩ | ⟨_, hn⟩
  · exact ⟨j, hj, h1, of_decide_eq_true h2⟩
  · exfalso
    have h1 := find_now hP hk hB
    rw [findA_none (fun a ha => of_decide_eq_false (hn a ha))] at h1
    apply ho
    rw [← hf, ← h1, ByteArray.toList_eq]
theorem no_id {S R : List Art} {P : List Edit} {k : Nat} {e : Edit} (hP : RiseE P) (hk : P[k]? = some e) (hB : Becomes S (P.take k) R) (hf : (findA S e.id).toList = e.old.toList) (ho : e.old.toList = []) : ∀ a ∈ R, a.id ≠ e.id := by
  intro a ha hi
  have h1 := find_now hP hk hB
  rw [← hi, findA_mem hB.good.rise ha, hi] at h1
  have := (okArt_facts (hB.good.all a ha)).2.2.1
  rw [h1, hf, ho] at this
  revert this
  decide
/-- The place of a new article. -/
def placeA (q : Int) (R : List Art) : Nat := (R.findIdx? (fun a => decide (q < a.id))).getD R.length
theorem place_le (q : Int) (R : List Art) : placeA q R ≤ R.length := by
  unfold placeA
  rcases hf : R.findIdx? (fun a => decide (q < a.id)) with _ | k
  · rw [hf]; exact Nat.le_refl _
  · obtain ⟨h1, _⟩ := List.findIdx?_eq_some_iff_getElem.1 hf
    rw [hf]; exact Nat.le_of_lt h1
theorem place_idx (q : Int) (R : List Art) : (idxA (fun a => decide (q < a.id)) R < 0 ∧ placeA q R = R.length) ∨ (idxA (fun a => decide (q < a.id)) R = (placeA q R : Int)) := by
  unfold placeA idxA
  rcases hf : R.findIdx? (fun a => decide (q < a.id)) with _ | k
  · left; rw [hf]; exact ⟨by simp, rfl⟩
  · right; rw [hf]; rfl
theorem place_below {q : Int} {R : List Art} (hn : ∀ a ∈ R, a.id ≠ q) : ∀ c ∈ R.take (placeA q R), c.id < q := by
  intro c hc
  obtain ⟨j, hj, rfl⟩ := List.mem_iff_getElem.1 hc
  rw [List.length_take] at hj
  rw [List.getElem_take]
  have hjl : j < R.length := by omega
  have h1 := hn R[j] (List.getElem_mem hjl)
  have h2 : ¬ q < R[j].id := by
    unfold placeA at hj
    rcases hf : R.findIdx? (fun a => decide (q < a.id)) with _ | k
    · have := List.findIdx?_eq_none_iff.1 hf R[j] (List.getElem_mem hjl)
      simpa using this
    · obtain ⟨_, _, h3⟩ := List.findIdx?_eq_some_iff_getElem.1 hf
      rw [hf] at hj
      have := h3 j (by simp at hj; omega)
      simpa using this
  omega
theorem place_above {q : Int} {R : List Art} (hr : RiseA R) : ∀ c ∈ R.drop (placeA q R), q < c.id := by
  intro c hc
  unfold placeA at hc
  rcases hf : R.findIdx? (fun a => decide (q < a.id)) with _ | k
  · rw [hf, Option.getD_none, List.drop_length] at hc
    cases hc
  · obtain ⟨h1, h2, _⟩ := List.findIdx?_eq_some_iff_getElem.1 hf
    rw [hf, Option.getD_some] at hc
    obtain ⟨j, hj, rfl⟩ := List.mem_iff_getElem.1 hc
    rw [List.length_drop] at hj
    rw [List.getElem_drop]
    have h2 : q < R[k].id := of_decide_eq_true h2
    by_cases hj0 : j = 0
    · subst hj0; exact h2
    · have := (List.pairwise_iff_getElem.1 hr) k (k + j) h1 (by omega) (by omega)
      omega

set_option maxHeartbeats 400000 in
/-- The closure of 'applied': it has captured an edit. -/
theorem isAbove_pred (q : Int) (B : Nat) (w : World) (hB : B < w.heap.size) (hc : w.cell? ⟨B, 1, none⟩ = some (.int .i64 q)) : PredA 67 #[.pointer (some ⟨B, 0, none⟩)] (fun a => decide (q < a.id)) w := by
  intro W x hb
  have x0 := (hb.cell (p := ⟨B, 1, none⟩) hB).trans hc
  have hlt := World.block_lt_of_cell? W ⟨B, 1, none⟩ x0
  have y0 := (((Below.refl W.heap.size W).alloc (Nat.le_refl _) (.cells #[.int .i64 x.id, .string x.text] 70)).cell (p := ⟨B, 1, none⟩) hlt).trans x0
  obtain ⟨r, hr⟩ : ∃ r, decide (q < x.id) = r := ⟨_, rfl⟩
  show Calls Try.prog 67 #[.agg #[.int .i64 x.id, .string x.text], .pointer (some ⟨B, 0, none⟩)] W (RetB (.bool (decide (q < x.id))) W)
  have HR := Lib.hid hr
  cases r with
  | true =>
    have h1 : q < x.id := of_decide_eq_true hr
    rw [hr]
    clear hr x0 hb
    go_enter Try.func67, Try.ntmps67
    go_wp2
    go_ret
    exact ⟨rfl, (Below.refl W.heap.size W).alloc (Nat.le_refl _) _⟩
  | false =>
    have h1 : ¬ q < x.id := of_decide_eq_false hr
    rw [hr]
    clear hr x0 hb
    go_enter Try.func67, Try.ntmps67
    go_wp2
    go_ret
    exact ⟨rfl, (Below.refl W.heap.size W).alloc (Nat.le_refl _) _⟩
theorem isAbove_enters : ∀ args w, (callFunc 67 args).run Try.prog w = .ok (.enter 67 args) w := enters_of Try.func67 (by kernel_rfl) rfl

def AppPost (S : List Art) (P : List Edit) (w : World) (e : Ending) (w' : World) : Prop :=
  ∃ v, e = .returned (.tuple #[v, .bool (applyO S P).isSome]) ∧ (∀ R, applyO S P = some R → OwnL artCells R w.heap.size w' v) ∧ (∃ A n c, v = .slice A n c) ∧ Below w.heap.size w w'
end Go.Proofs.Ytmgdodgofpapgaa

namespace Go.Proofs.Ytmgdodgofpapgaa
open Go.RowKit Go.Lib

/-- A statute on its way. -/
structure OnWay (S : List Art) (P : List Edit) (k : Nat) (R : List Art) : Prop where
  bec : Becomes S (P.take k) R
  len : R.length ≤ S.length + k
  fit : ∀ j (h : j < P.length), j < k → (findA S P[j].id).toList = P[j].old.toList
theorem OnWay.start {S : List Art} {P : List Edit} (h : GoodA S) : OnWay S P 0 S := ⟨Becomes.nil h, by omega, fun j _ hj => absurd hj (Nat.not_lt_zero _)⟩
theorem OnWay.step {S R R' : List Art} {P : List Edit} {k : Nat} (h : OnWay S P k R) (hk : k < P.length) (hf : (findA S P[k].id).toList = P[k].old.toList) (hB : Becomes S (P.take k ++ [P[k]]) R') (hl : R'.length ≤ R.length + 1) : OnWay S P (k + 1) R' :=
  ⟨by rw [List.take_succ_eq_append_getElem hk]; exact hB, by have := h.len; omega, fun j hj hjk => by
    by_cases e : j = k
    · subst e; exact hf
    · exact h.fit j hj (by omega)⟩
theorem OnWay.done {S R : List Art} {P : List Edit} (h : OnWay S P P.length R) (hS : GoodA S) (hP : okPatch P = true) : applyO S P = if R.length ≤ 8 then some R else none := by
  refine applyO_of hS hP (fits_iff.2 (fun e he => ?_)) (by have := h.bec; rwa [List.take_length] at this)
  obtain ⟨j, hj, rfl⟩ := List.mem_iff_getElem.1 he
  have := h.fit j hj hj
  rw [← mk_toList (findA S P[j].id), this, mk_toList]
theorem fits_bad {S : List Art} {P : List Edit} {k : Nat} (hk : k < P.length) (h : (findA S P[k].id).toList ≠ P[k].old.toList) : fits S P = false := by
  rw [Bool.eq_false_iff]
  intro hf
  exact h (by rw [fits_iff.1 hf _ (List.getElem_mem hk)])
theorem cut_mid {α : Type} {L : List α} {j : Nat} (h : j < L.length) : L = L.take j ++ L[j] :: L.drop (j + 1) := by
  rw [List.getElem_cons_drop, List.take_append_drop]
theorem art_turn (A B : List Art) (a : Art) (x : ByteArray) : ((A ++ a :: B).flatMap artCells).set (A.length * 2 + 1) (.string x) = (A ++ (⟨a.id, x⟩ : Art) :: B).flatMap artCells := by
  have hl : (A.flatMap artCells).length = A.length * 2 := flat_len (k := 2) artCells (fun _ => rfl) A
  rw [List.flatMap_append, List.flatMap_append, List.flatMap_cons, List.flatMap_cons, List.set_append, if_neg (by omega), hl, show A.length * 2 + 1 - A.length * 2 = 1 by omega]
  rfl
/-- One article of a row of the call's own gets another text. -/
theorem own_turn {w : World} {base g cap : Nat} {A B : List Art} {a : Art} (x : ByteArray) (h : w.ownsRow base 70 2 (.slice (some ⟨g, 0, none⟩) (A ++ a :: B).length cap) (A ++ a :: B).length ((A ++ a :: B).flatMap artCells)) :
    (w.setCell ⟨g, A.length * 2 + 1, none⟩ (.string x)).ownsRow base 70 2 (.slice (some ⟨g, 0, none⟩) (A ++ a :: B).length cap) (A ++ a :: B).length ((A ++ (⟨a.id, x⟩ : Art) :: B).flatMap artCells) := by
  obtain ⟨T, hB, hC, hnc, hcm, hbg, hxl⟩ := blk_of_own h
  have hla : (A.flatMap artCells).length = A.length * 2 := flat_len (k := 2) artCells (fun _ => rfl) A
  have eC : (A ++ a :: B).flatMap artCells ++ T = (A.flatMap artCells ++ [.int .i64 a.id]) ++ (.string a.text :: (B.flatMap artCells ++ T)) := by simp [artCells]
  have hs := hB.set Try.prog (A.length * 2 + 1) [.string x] (by rw [eC, List.length_append, List.length_append, hla]; simp) (fun v hv => by rw [List.mem_singleton] at hv; subst hv; rfl)
  have e1 : splice ((A ++ a :: B).flatMap artCells ++ T) (A.length * 2 + 1) [.string x] = (A ++ (⟨a.id, x⟩ : Art) :: B).flatMap artCells ++ T := by
    have eD : (A.flatMap artCells ++ [.int .i64 a.id]) ++ (.string a.text :: (B.flatMap artCells ++ T)) = (A.flatMap artCells ++ [.int .i64 a.id, .string a.text]) ++ (B.flatMap artCells ++ T) := by simp
    rw [eC]
    unfold splice
    rw [List.take_left' (by rw [List.length_append, hla]; rfl), eD, List.drop_left' (by rw [List.length_append, hla]; rfl)]
    simp [artCells]
  have hl2 : ((A ++ (⟨a.id, x⟩ : Art) :: B).flatMap artCells).length = (A ++ a :: B).length * 2 := by rw [flat_len (k := 2) artCells (fun _ => rfl)]; simp
  rw [e1] at hs
  exact own_of_blk hs (by rw [List.length_append, hl2, ← hxl, ← List.length_append]; exact hC) (by rw [List.take_left' hl2]) hl2 hnc hcm hbg

theorem own_turn' {w : World} {base g n cap j : Nat} {R : List Art} (x : ByteArray) (hn : R.length = n) (hj : j < R.length) (h : w.ownsRow base 70 2 (.slice (some ⟨g, 0, none⟩) n cap) n (R.flatMap artCells)) :
    (w.setCell ⟨g, j * 2 + 1, none⟩ (.string x)).ownsRow base 70 2 (.slice (some ⟨g, 0, none⟩) n cap) n ((R.take j ++ (⟨R[j].id, x⟩ : Art) :: R.drop (j + 1)).flatMap artCells) := by
  have e := cut_mid hj
  have hl : (R.take j).length = j := by rw [List.length_take]; omega
  have hn2 : (R.take j ++ R[j] :: R.drop (j + 1)).length = n := by rw [← e]; exact hn
  have := own_turn (w := w) (base := base) (g := g) (cap := cap) (A := R.take j) (B := R.drop (j + 1)) (a := R[j]) x (by rw [hn2, ← e]; exact h)
  rw [hl, hn2] at this
  exact this
theorem own_at {w : World} {base g n cap j : Nat} {R : List Art} (hn : R.length = n) (hj : j < R.length) (h : w.ownsRow base 70 2 (.slice (some ⟨g, 0, none⟩) n cap) n (R.flatMap artCells)) : w.cell? ⟨g, j * 2 + 1, none⟩ = some (.string R[j].text) ∧ w.frozen? ⟨g, j * 2 + 1, none⟩ = false := by
  obtain ⟨T, hB, hC, hnc, hcm, hbg, hxl⟩ := blk_of_own h
  refine ⟨?_, hB.free (by rw [List.length_append]; omega)⟩
  rw [hB.cell, List.getElem?_append_left (by omega)]
  exact flat_at artCells (size := 2) (fun _ => rfl) R j R[j] 1 _ (List.getElem?_eq_getElem hj) rfl (by omega)

set_option maxRecDepth 100000 in
set_option maxHeartbeats 8000000 in
theorem applied_any (S : List Art) (P : List Edit) (w : World) (vs vp : Value) (hS : Arts w w.heap.size vs S) (hP : Edits w w.heap.size vp P) (hok : okStat S = true) (hp : okPatch P = true) :
    Calls Try.prog 37 #[vs, vp] w (AppPost S P w) := by
  have hmf : ∀ (fn : Fn) (first cap : Array Value) (w : World), (Instr.makeFunc fn first cap).run Try.prog w = .ok (.func fn first cap) w := fun _ _ _ _ => rfl
  have HSS := Lib.hid hS
  have HG := Lib.hid (GoodA.of hok)
  have HPR := Lib.hid ((okPatch_iff P).1 hp)
  have HOKP := Lib.hid hp
  have hS8 := okStat_len hok
  have hP16 := okPatch_len hp
  have bW := (Below.refl w.heap.size w).alloc (Nat.le_refl _) (.cells #[] 70)
  have HS0 := Lib.hid (SlR.on hS (Pl.stays _) bW bW.size)
  have HB0 := Lib.hid bW
  have hown0 : (w.alloc (.cells #[] 70)).ownsRow w.heap.size 70 2 (.slice (some ⟨w.heap.size, 0, none⟩) 0 0) 0 [] := by simpa using World.ownsRow_made w #[] 0 (Nat.le_refl _) (Nat.zero_le _) rfl
  have HOWN0 := Lib.hid hown0
  obtain ⟨A, c, rfl, hc, hm, hel⟩ := hP
  unfold maxLen at hm
  have hlm : P.length ≤ 9223372036854775807 := by omega
  have HEL := Lib.hid hel
  obtain ⟨T, tc, rfl, _⟩ := hS
  obtain ⟨i0, hi, hz0, hz1, hz2⟩ := info_parts Try.infoA
  clear hel hok hp bW hown0
  go_enter Try.func37, Try.ntmps37
  go_wp2_with (at_builtin; refine wpList_append_slR artCells rfl _ _ 24 rfl w.heap.size 70 i0 (.agg #[.int .i64 0, .string ⟨#[]⟩]) 2 24 Try.underlying24 hi hz0 hz1 hz2 rfl (by decide) _ _ _ rfl HOWN0.out _ S _ rfl HS0.out (fun _ => rfl) (fun y u hu => art_one hu) ?c3 ?c4 HB0.out.size ?_)
  case c3 => unfold maxLen; omega
  case c4 => omega
  intro o1 w1 hown1 hgrow1 hnn1
  have HOWN1 : Hid (w1.ownsRow w.heap.size 70 2 o1 S.length (S.flatMap artCells)) := Lib.hid (by simpa using hown1)
  have HB1 : Hid (Below w.heap.size w w1) := Lib.hid (HB0.out.grown hgrow1 HB0.out.size (fun j hj => (HOWN0.out.lt j hj).1))
  have HN1 : Hid (o1 ≠ .slice none 0 0) := Lib.hid (by simpa using hnn1)
  clear hown1 hgrow1 hnn1
  go_wp2
  go_loopw [6, 16] (fun o i wr => ∃ (k : Nat) (R : List Art), i = .int .i64 (k : Int) ∧ k ≤ P.length ∧ wr.ownsRow w.heap.size 70 2 o R.length (R.flatMap artCells) ∧ o ≠ .slice none 0 0 ∧ OnWay S P k R ∧ Below w.heap.size w wr) (fun _ i _ => P.length - (RowKit.intOf i).toNat)
  case atStart => exact ⟨0, S, rfl, Nat.zero_le _, HOWN1.out, HN1.out, OnWay.start HG.out, HB1.out⟩
  case round =>
    obtain ⟨k, R, rfl, hk, hown, hnn, hway, hb⟩ := hrel
    obtain ⟨g, cap, rfl, hdc, hcm⟩ := own_some hown hnn
    unfold maxLen at hcm
    have HOWN := Lib.hid hown
    have HWAY := Lib.hid hway
    have HB := Lib.hid hb
    have hRl := hway.len
    have HGW := Lib.hid (hown.lt g rfl)
    clear hown hnn hway
    by_cases hlt : k < P.length
    · obtain ⟨b, off, rfl, hblt, hcell⟩ := HEL.out (by omega)
      have hget : P[k]? = some P[k] := List.getElem?_eq_getElem hlt
      obtain ⟨c0, c1, c2, c3⟩ := edits_at hcell hget
      have x0 := (hb.cell (p := ⟨b, off + k * 4, none⟩) hblt).trans c0
      have x1 := (hb.cell (p := ⟨b, off + k * 4 + 1, none⟩) hblt).trans c1
      have x2 := (hb.cell (p := ⟨b, off + k * 4 + 2, none⟩) hblt).trans c2
      have x3 := (hb.cell (p := ⟨b, off + k * 4 + 3, none⟩) hblt).trans c3
      have HGET := Lib.hid hget
      have HOE := Lib.hid (HPR.out.1 _ (List.getElem_mem hlt))
      have HBAD := Lib.hid (fits_bad (S := S) hlt)
      have HSTEP := Lib.hid (fun (R' : List Art) => HWAY.out.step (R' := R') hlt)
      have HRT := Lib.hid (rise_take HPR.out.2.1 hget)
      have HHAS := Lib.hid (has_id HPR.out.2.1 hget HWAY.out.bec)
      have HNO := Lib.hid (no_id HPR.out.2.1 hget HWAY.out.bec)
      clear hget hcell c0 c1 c2 c3 hb
      generalize P[k] = e at *
      go_upto_region 5 with (fail)
      obtain ⟨W, hW⟩ : ∃ W : World, W = wr.alloc (.cells #[.int .i64 e.kind, .int .i64 e.id, .string e.old, .string e.new] 59) := ⟨_, rfl⟩
      have bWr : Below wr.heap.size wr W := by rw [hW]; exact (Below.refl _ _).alloc (Nat.le_refl _) _
      have bW := HB.out.trans (bWr.mono HB.out.size)
      have y0 : W.cell? ⟨wr.heap.size, 0, none⟩ = some (.int .i64 e.kind) := by rw [hW]; simp [go_sem]
      have y1 : W.cell? ⟨wr.heap.size, 1, none⟩ = some (.int .i64 e.id) := by rw [hW]; simp [go_sem]
      have y2 : W.cell? ⟨wr.heap.size, 2, none⟩ = some (.string e.old) := by rw [hW]; simp [go_sem]
      have y3 : W.cell? ⟨wr.heap.size, 3, none⟩ = some (.string e.new) := by rw [hW]; simp [go_sem]
      rw [← hW]
      have z1 := fun x : Aft W => x.cell y1
      have z2 := fun x : Aft W => x.cell y2
      have HT : Hid (∀ x : Aft W, Calls Try.prog 63 #[.slice T S.length tc, .int .i64 e.id] x.val (RetB (.string (findA S e.id)) x.val)) := Lib.hid (fun x => textOf_any S e.id x.val _ (SlR.on HSS.out (Pl.stays _) (bW.trans (x.ok.mono bW.size)) (bW.trans (x.ok.mono bW.size)).size))
      clear hW x0 x1 x2 x3
      by_cases hfit : (findA S e.id).toList = e.old.toList
      · have e1 : ((findA S e.id).toList == e.old.toList) = true := by simp [hfit]
        have HFIT := Lib.hid hfit
        generalize findA S e.id = F at HT e1
        clear hfit
        refine wp_region_aft (by kernel_rfl) (by kernel_rfl) ?_
        repeat (go_big_quiet_step ((go_at_call 63; exact aft_b (HT.out _))))
        refine wpQuiet_nil ?_
        rintro _ ⟨y, rfl⟩
        have HBY := Lib.hid (bW.trans (y.ok.mono bW.size))
        have HOWNY := Lib.hid (own_below HOWN.out (bWr.trans (y.ok.mono bWr.size)))
        have u0 := y.cell y0
        have u1 := y.cell y1
        have u2 := y.cell y2
        have u3 := y.cell y3
        have HART := Lib.hid (article_any R e.id y.val _ (SlR.of_own artCells (fun _ => rfl) HOWNY.out))
        have hebw : w.heap.size ≤ wr.heap.size := HB.out.size
        clear y0 y1 y2 y3 z1 z2 HT e1 bW bWr
        have hkinds := okEdit_kinds HOE.out
        rcases hkinds.2.2 with ⟨hk1, ho1, hn1⟩ | ⟨hk1, ho1, hn1⟩ | ⟨hk1, ho1, hn1⟩
        · -- a new article
          have q2 : (e.kind == 2) = false := by simp [hk1]
          have q3 : (e.kind == 3) = false := by simp [hk1]
          have HA := Lib.hid (place_below (HNO.out HFIT.out (by rw [ho1, ByteArray.toList_eq])))
          have HAB := Lib.hid (place_above (q := e.id) HWAY.out.bec.good.rise)
          have HPL := Lib.hid (place_le e.id R)
          have HPI := Lib.hid (place_idx e.id R)
          have HWAYN : Hid (OnWay S P (k + 1) (R.take (placeA e.id R) ++ ⟨e.id, e.new⟩ :: R.drop (placeA e.id R))) := Lib.hid (HSTEP.out _ HFIT.out (Becomes.add (by rw [List.take_append_drop]; exact HWAY.out.bec) HRT.out.2 HOE.out hk1 HA.out HAB.out) (by simp; omega))
          generalize idxA (fun a => decide (a.id = e.id)) R = z0 at HART
          have hpl := HPL.out
          have hpi := HPI.out
          clear hkinds hk1 ho1 hn1
          go_wp2_with (fail)
          refine (HART.out).mono ?_
          rintro e' w2 ⟨rfl, hb2⟩
          have HB2 := Lib.hid (HBY.out.trans (hb2.mono HBY.out.size))
          have HOWN2 := Lib.hid (own_below HOWNY.out hb2)
          have heb : wr.heap.size < y.val.heap.size := World.block_lt_of_cell? y.val ⟨wr.heap.size, 0, none⟩ u0
          have v0 := (hb2.cell (p := ⟨wr.heap.size, 0, none⟩) heb).trans u0
          have v1 := (hb2.cell (p := ⟨wr.heap.size, 1, none⟩) heb).trans u1
          have v3 := (hb2.cell (p := ⟨wr.heap.size, 3, none⟩) heb).trans u3
          have heb2 : wr.heap.size < w2.heap.size := World.block_lt_of_cell? w2 ⟨wr.heap.size, 0, none⟩ v0
          have HIX := Lib.hid (indexA_any R w2 _ (SlR.of_own artCells (fun _ => rfl) HOWN2.out) 67 #[.pointer (some ⟨wr.heap.size, 0, none⟩)] (fun a => decide (e.id < a.id)) (isAbove_pred e.id wr.heap.size w2 heb2 v1) isAbove_enters)
          generalize idxA (fun a => decide (e.id < a.id)) R = z1 at HIX hpi
          generalize hpe : placeA e.id R = pl at hpl hpi HWAYN
          clear hb2 u0 u1 u2 u3 heb HPI HPL HA HAB hpe
          go_wp2_with (fail)
          refine (HIX.out).mono ?_
          rintro e' w3 ⟨rfl, hb3⟩
          have HB3 := Lib.hid (HB2.out.trans (hb3.mono HB2.out.size))
          have HOWN3 := Lib.hid (own_below HOWN2.out hb3)
          have x1 := (hb3.cell (p := ⟨wr.heap.size, 1, none⟩) heb2).trans v1
          have x3 := (hb3.cell (p := ⟨wr.heap.size, 3, none⟩) heb2).trans v3
          have hg3 : g < w3.heap.size := by
            obtain ⟨T', hBl, _⟩ := blk_of_own HOWN3.out
            exact hBl.lt
          have hsz3 := HB3.out.size
          have HINS := Lib.hid (insA_any R ⟨e.id, e.new⟩ pl w.heap.size g R.length cap w3.heap.size 1 (w3.alloc (.cells #[.int .i64 e.id, .string e.new] 70)) rfl hpl (by omega) (HOWN3.out.alloc _) (alloc_at w3 _) (by omega) (base_le hsz3))
          clear hb3 v0 v1 v3 heb2
          rcases hpi with ⟨hneg, hplr⟩ | hz
          · have hn0 : z1 < 0 := hneg
            subst hplr
            clear hneg hpl
            go_wp2_with (fail)
            refine (HINS.out).mono ?_
            rintro e' w4 ⟨v4, rfl, hown4, hnn4, ho4⟩
            have HOWN4 := Lib.hid hown4
            have HB4 := Lib.hid ((HB3.out.alloc hsz3 (.cells #[.int .i64 e.id, .string e.new] 70)).trans (only_below ho4 HGW.out.1 (base_le hsz3)))
            clear hown4 ho4
            go_wp2
            go_roundw
            case rel => exact ⟨k + 1, R.take R.length ++ ⟨e.id, e.new⟩ :: R.drop R.length, by go_num, by omega, (by rw [show (R.take R.length ++ (⟨e.id, e.new⟩ : Art) :: R.drop R.length).length = R.length + 1 by simp]; exact HOWN4.out), hnn4, HWAYN.out, HB4.out⟩
            case measure => simp [RowKit.intOf]; omega
          · subst hz
            have hn0 : ¬ ((pl : Int) < 0) := by omega
            go_wp2_with (fail)
            refine (HINS.out).mono ?_
            rintro e' w4 ⟨v4, rfl, hown4, hnn4, ho4⟩
            have HOWN4 := Lib.hid hown4
            have HB4 := Lib.hid ((HB3.out.alloc hsz3 (.cells #[.int .i64 e.id, .string e.new] 70)).trans (only_below ho4 HGW.out.1 (base_le hsz3)))
            clear hown4 ho4
            go_wp2
            go_roundw
            case rel => exact ⟨k + 1, R.take pl ++ ⟨e.id, e.new⟩ :: R.drop pl, by go_num, by omega, (by rw [show (R.take pl ++ (⟨e.id, e.new⟩ : Art) :: R.drop pl).length = R.length + 1 by simp; omega]; exact HOWN4.out), hnn4, HWAYN.out, HB4.out⟩
            case measure => simp [RowKit.intOf]; omega
        · -- an article goes
          have q2 : (e.kind == 2) = true := by simp [hk1]
          obtain ⟨j, hj, hz, hid⟩ := HHAS.out HFIT.out (sent_ne ho1)
          have HWAYN : Hid (OnWay S P (k + 1) (R.take j ++ R.drop (j + 1))) := Lib.hid (HSTEP.out _ HFIT.out (Becomes.drop (a := R[j]) (by rw [← cut_mid hj]; exact HWAY.out.bec) HRT.out.2 HOE.out hk1 hid) (by simp; omega))
          rw [hz] at HART
          have hj1 : (j : Int) ≤ 1000 := by omega
          clear hkinds hk1 ho1 hn1 hz hid
          go_wp2_with (fail)
          refine (HART.out).mono ?_
          rintro e' w2 ⟨rfl, hb2⟩
          have HB2 := Lib.hid (HBY.out.trans (hb2.mono HBY.out.size))
          have heb : wr.heap.size < y.val.heap.size := World.block_lt_of_cell? y.val ⟨wr.heap.size, 0, none⟩ u0
          have v0 := (hb2.cell (p := ⟨wr.heap.size, 0, none⟩) heb).trans u0
          have HDEL := Lib.hid (delA_any R j w.heap.size g R.length cap w2 rfl hj (by omega) (own_below HOWNY.out hb2))
          clear hb2 u0 u1 u2 u3 heb
          go_wp2_with (fail)
          refine (HDEL.out).mono ?_
          rintro e' w3 ⟨rfl, hown3, hg3⟩
          have HOWN3 := Lib.hid hown3
          have HB3 := Lib.hid (HB2.out.grown hg3 HB2.out.size (fun r hr => by injection hr with hr; subst hr; exact HGW.out.1))
          clear hown3 hg3
          go_wp2
          go_roundw
          case rel => exact ⟨k + 1, R.take j ++ R.drop (j + 1), by go_num, by omega, (by rw [show (R.take j ++ R.drop (j + 1)).length = R.length - 1 by simp; omega]; exact HOWN3.out), (by simp), HWAYN.out, HB3.out⟩
          case measure => simp [RowKit.intOf]; omega
        · -- an article turns
          have q2 : (e.kind == 2) = false := by simp [hk1]
          have q3 : (e.kind == 3) = true := by simp [hk1]
          obtain ⟨j, hj, hz, hid⟩ := HHAS.out HFIT.out (sent_ne ho1)
          have HWAYN : Hid (OnWay S P (k + 1) (R.take j ++ ⟨R[j].id, e.new⟩ :: R.drop (j + 1))) := Lib.hid (HSTEP.out _ HFIT.out (Becomes.turn (a := R[j]) (by rw [← cut_mid hj]; exact HWAY.out.bec) HRT.out.2 HOE.out hk1 hid) (by simp; omega))
          rw [hz] at HART
          have hj1 : (j : Int) ≤ 1000 := by omega
          have hjr : (j : Int) < (R.length : Int) := by omega
          clear hkinds hk1 ho1 hn1 hz hid
          go_wp2_with (fail)
          refine (HART.out).mono ?_
          rintro e' w2 ⟨rfl, hb2⟩
          have HB2 := Lib.hid (HBY.out.trans (hb2.mono HBY.out.size))
          have heb : wr.heap.size < y.val.heap.size := World.block_lt_of_cell? y.val ⟨wr.heap.size, 0, none⟩ u0
          have v0 := (hb2.cell (p := ⟨wr.heap.size, 0, none⟩) heb).trans u0
          have v3 := (hb2.cell (p := ⟨wr.heap.size, 3, none⟩) heb).trans u3
          have hown2 := own_below HOWNY.out hb2
          obtain ⟨p0, f0⟩ := own_at rfl hj hown2
          have HOWN3 := Lib.hid (own_turn' e.new rfl hj hown2)
          have hgw2 := HGW.out.1
          have HB3 := Lib.hid (HB2.out.setCell (p := ⟨g, j * 2 + 1, none⟩) hgw2 (.string e.new))
          clear hb2 u0 u1 u2 u3 heb hown2
          go_wp2
          go_roundw
          case rel => exact ⟨k + 1, R.take j ++ ⟨R[j].id, e.new⟩ :: R.drop (j + 1), by go_num, by omega, (by rw [show (R.take j ++ (⟨R[j].id, e.new⟩ : Art) :: R.drop (j + 1)).length = R.length by simp; omega]; exact HOWN3.out), (by simp), HWAYN.out, HB3.out⟩
          case measure => simp [RowKit.intOf]; omega
      · have e1 : ((findA S e.id).toList == e.old.toList) = false := by simp [hfit]
        have HN := Lib.hid (applyO_no (HBAD.out hfit))
        generalize findA S e.id = F at HT e1
        clear hfit
        refine wp_region_aft (by kernel_rfl) (by kernel_rfl) ?_
        repeat (go_big_quiet_step ((go_at_call 63; exact aft_b (HT.out _))))
        refine wpQuiet_nil ?_
        rintro _ ⟨y, rfl⟩
        have HBY := Lib.hid (bW.trans (y.ok.mono bW.size))
        clear y0 y1 y2 y3 z1 z2 HT e1 bW bWr
        go_wp2
        go_ret2
        exact ⟨_, by rw [HN.out]; rfl, fun R' hR' => (by rw [HN.out] at hR'; cases hR'), ⟨_, _, _, rfl⟩, HBY.out⟩
    · have hge : ¬ (k : Int) < (P.length : Int) := by omega
      obtain rfl : k = P.length := by omega
      have HD := Lib.hid (HWAY.out.done HG.out HOKP.out)
      have HOL : Hid (OwnL artCells R w.heap.size wr (.slice (some ⟨g, 0, none⟩) R.length cap)) := Lib.hid (OwnL.of_own artCells (size := 2) (fun _ => rfl) HOWN.out)
      clear hlt hk
      by_cases h8 : R.length ≤ 8
      · have e8 : decide ((R.length : Int) ≤ 8) = true := by simp; omega
        rw [if_pos h8] at HD
        clear h8
        go_wp2
        go_ret2
        exact ⟨_, by rw [HD.out]; rfl, fun R' hR' => (by rw [HD.out] at hR'; injection hR' with hR'; subst hR'; exact HOL.out), ⟨_, _, _, rfl⟩, HB.out⟩
      · have e8 : decide ((R.length : Int) ≤ 8) = false := by simp; omega
        rw [if_neg h8] at HD
        clear h8
        go_wp2
        go_ret2
        exact ⟨_, by rw [HD.out]; rfl, fun R' hR' => (by rw [HD.out] at hR'; cases hR'), ⟨_, _, _, rfl⟩, HB.out⟩
end Go.Proofs.Ytmgdodgofpapgaa
