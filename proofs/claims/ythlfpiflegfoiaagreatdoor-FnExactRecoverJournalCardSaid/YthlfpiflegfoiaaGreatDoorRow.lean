/- Rows of the call's own, as lists. -/
import Derived.Test.YthlfpiflegfoiaaGreatDoorRA
import Derived.Laws.AppendOwn
namespace Go.Proofs.YthlfpiflegfoiaaGreatDoor
open Go.RowKit Go.Lib

/-- A row of the call's own: block g holds these cells, and they may be written. -/
structure Row (w : World) (g : Nat) (L : List Value) : Prop where
  cell : ∀ j u, L[j]? = some u → w.cell? ⟨g, j, none⟩ = some u
  free : ∀ j, j < L.length → w.frozen? ⟨g, j, none⟩ = false
theorem Row.set {w : World} {g : Nat} {L : List Value} (h : Row w g L) (k : Nat) (u : Value) (hk : k < L.length) : Row (w.setCell ⟨g, k, none⟩ u) g (L.set k u) where
  cell := fun j d hj => by
    by_cases e : k = j
    · subst e
      rw [List.getElem?_set, if_pos rfl, if_pos hk] at hj
      injection hj with hj
      subst hj
      exact World.cell?_setCell_same _ _ _ (h.cell k L[k] (List.getElem?_eq_getElem hk))
    · rw [List.getElem?_set, if_neg e] at hj
      rw [World.cell?_setCell_other _ _ _ _ (by intro h; injection h with _ h; exact e h)]
      exact h.cell j d hj
  free := fun j hj => by
    rw [List.length_set] at hj
    rw [World.frozen?_setCell]
    exact h.free j hj
theorem Row.below {w w' : World} {g B : Nat} {L : List Value} (h : Row w g L) (hb : Below B w w') (hg : g < B) : Row w' g L :=
  ⟨fun j u hj => (hb.cell (p := ⟨g, j, none⟩) hg).trans (h.cell j u hj), fun j hj => (hb.frozen (p := ⟨g, j, none⟩) hg).trans (h.free j hj)⟩
theorem Row.far {w : World} {g : Nat} {L : List Value} {p : Addr} (h : Row w g L) (u : Value) (hp : p.block ≠ g) : Row (w.setCell p u) g L :=
  ⟨fun j v hj => (World.cell?_setCell_far w p ⟨g, j, none⟩ u hp).trans (h.cell j v hj), fun j hj => by rw [World.frozen?_setCell]; exact h.free j hj⟩
theorem Row.new (w : World) (cs : Array Value) (e : TypeId) : Row (w.alloc (.cells cs e)) w.heap.size cs.toList where
  cell := fun j u hj => by
    have : cs[j]? = some u := by simpa using hj
    simpa [go_sem] using this
  free := fun j hj => by simp [go_sem]
theorem SlR.of_row {α : Type} (f : α → List Value) {size : Nat} {w : World} {g c : Nat} {xs : List α} (hf : ∀ x, (f x).length = size) (h : Row w g (xs.flatMap f)) (hg : g < w.heap.size) (hc : xs.length ≤ c) (hm : c ≤ maxLen) : SlR (Pl f) size w w.heap.size (.slice (some ⟨g, 0, none⟩) xs.length c) xs := by
  refine ⟨_, c, rfl, hc, hm, fun h0 => ⟨g, 0, rfl, hg, fun k x hx => ⟨f x, hf x, rfl, fun j u hu => ?_⟩⟩⟩
  have hj : j < size := by rw [← hf x]; exact (List.getElem?_eq_some_iff.1 hu).1
  rw [Nat.zero_add]
  exact h.cell _ u (flat_at f hf xs k x j u hx hu hj)


/-- A slice of the call's own that reads as a list: in a block at or above 'base', and it may be written. -/
def OwnL {α : Type} (f : α → List Value) (xs : List α) (base : Nat) (w : World) (v : Value) : Prop :=
  ∃ A c, v = .slice A xs.length c ∧ xs.length ≤ c ∧ c ≤ maxLen ∧ (xs ≠ [] → ∃ g, A = some ⟨g, 0, none⟩ ∧ base ≤ g ∧ g < w.heap.size ∧ Row w g (xs.flatMap f))
theorem OwnL.of_own {α : Type} (f : α → List Value) {size : Nat} {w : World} {base : Nat} {e : TypeId} {v : Value} {xs : List α} (hf : ∀ x, (f x).length = size) (h : w.ownsRow base e size v xs.length (xs.flatMap f)) : OwnL f xs base w v := by
  have hS := SlR.of_own f hf h
  obtain ⟨hl, h | ⟨g, cap, cur, rfl, hg, hh, h1, h2, h3, h4⟩⟩ := h
  · obtain ⟨rfl, h0⟩ := h
    have : xs = [] := List.eq_nil_of_length_eq_zero h0
    subst this
    exact ⟨none, 0, rfl, Nat.le_refl _, Nat.zero_le _, fun h => absurd rfl h⟩
  · refine ⟨_, cap, rfl, h1, h2, fun h0 => ⟨g, rfl, hg, ?_, ⟨fun j u hj => ?_, fun j hj => ?_⟩⟩⟩
    · rcases Nat.lt_or_ge g w.heap.size with hlt | hge
      · exact hlt
      · rw [Array.getElem?_eq_none hge] at hh; cases hh
    · have hlt : j < xs.length * size := by rw [← hl]; exact (List.getElem?_eq_some_iff.1 hj).1
      have hcur : cur[j]? = some u := by rw [← Array.getElem?_toList, ← hj, ← h4, List.getElem?_take, if_pos hlt]
      simp [World.cell?, hh, hcur]
    · have hlt : j < xs.length * size := by rw [← hl]; exact hj
      have hlc : xs.length * size ≤ cap * size := Nat.mul_le_mul_right _ h1
      simp [World.frozen?, hh]
theorem OwnL.on {α : Type} {f : α → List Value} {xs : List α} {base : Nat} {w w' : World} {v : Value} (h : OwnL f xs base w v) (hb : Below w.heap.size w w') : OwnL f xs base w' v := by
  obtain ⟨A, c, rfl, h1, h2, h3⟩ := h
  refine ⟨A, c, rfl, h1, h2, fun h0 => ?_⟩
  obtain ⟨g, e, hg, hlt, hr⟩ := h3 h0
  exact ⟨g, e, hg, Nat.lt_of_lt_of_le hlt hb.size, hr.below hb hlt⟩
theorem OwnL.less {α : Type} {f : α → List Value} {xs : List α} {base b : Nat} {w : World} {v : Value} (h : OwnL f xs base w v) (hb : b ≤ base) : OwnL f xs b w v := by
  obtain ⟨A, c, rfl, h1, h2, h3⟩ := h
  refine ⟨A, c, rfl, h1, h2, fun h0 => ?_⟩
  obtain ⟨g, e, hg, hlt, hr⟩ := h3 h0
  exact ⟨g, e, Nat.le_trans hb hg, hlt, hr⟩
theorem OwnL.slR {α : Type} {f : α → List Value} {size : Nat} {xs : List α} {base : Nat} {w : World} {v : Value} (hf : ∀ x, (f x).length = size) (h : OwnL f xs base w v) : SlR (Pl f) size w w.heap.size v xs := by
  obtain ⟨A, c, rfl, h1, h2, h3⟩ := h
  by_cases h0 : xs = []
  · subst h0
    exact SlR.nil _ _ _ _ _ _ h2
  · obtain ⟨g, rfl, hg, hlt, hr⟩ := h3 h0
    exact SlR.of_row f hf hr hlt h1 h2
theorem OwnL.nil {α : Type} (f : α → List Value) (base : Nat) (w : World) : OwnL f ([] : List α) base w (.slice none 0 0) := ⟨none, 0, rfl, Nat.le_refl _, Nat.zero_le _, fun h => absurd rfl h⟩
theorem own_len {w : World} {base : Nat} {e : TypeId} {size n : Nat} {v : Value} {xs : List Value} (h : w.ownsRow base e size v n xs) : ∃ A c, v = .slice A n c ∧ n ≤ c ∧ c ≤ maxLen := by
  obtain ⟨hl, h | ⟨g, cap, cur, rfl, hg, hh, h1, h2, h3, h4⟩⟩ := h
  · obtain ⟨rfl, rfl⟩ := h
    exact ⟨none, 0, rfl, Nat.le_refl _, Nat.zero_le _⟩
  · exact ⟨_, cap, rfl, h1, h2⟩
/-- Texts in memory. -/
def Strs (w : World) (v : Value) (ls : List (List UInt8)) : Prop := SlR (Pl strCell) 1 w w.heap.size v ls
theorem Strs.on {w w' : World} {v : Value} {ls : List (List UInt8)} (h : Strs w v ls) (hb : Below w.heap.size w w') : Strs w' v ls := SlR.on h (Pl.stays _) hb hb.size
theorem strs_get {w : World} {n c k : Nat} {A : Option Addr} {ls : List (List UInt8)} {l : List UInt8} (h : Strs w (.slice A n c) ls) (hk : ls[k]? = some l) : ∃ b off, A = some ⟨b, off, none⟩ ∧ b < w.heap.size ∧ w.cell? ⟨b, off + k, none⟩ = some (.string ⟨l.toArray⟩) := by
  obtain ⟨A', c', hv, h1, h2, h3⟩ := h
  injection hv with e1 e2 e3
  subst e1
  have hlt : k < ls.length := (List.getElem?_eq_some_iff.1 hk).1
  obtain ⟨b, off, hA, hb, hc⟩ := h3 (by omega)
  obtain ⟨us, hl, hus, hcell⟩ := hc k l hk
  subst hus
  have := hcell 0 _ rfl
  rw [Nat.mul_one, Nat.add_zero] at this
  exact ⟨b, off, hA, hb, this⟩
theorem flat_snoc {α : Type} (f : α → List Value) (xs : List α) (x : α) : (xs ++ [x]).flatMap f = xs.flatMap f ++ f x := by simp
theorem slR_len' {α : Type} {R : World → Nat → List Value → α → Prop} {size : Nat} {w : World} {B n c : Nat} {A : Option Addr} {xs : List α} (h : SlR R size w B (.slice A n c) xs) : n = xs.length ∧ xs.length ≤ c ∧ c ≤ 9223372036854775807 := by
  obtain ⟨A', c', hv, h1, h2, h3⟩ := h
  injection hv with e1 e2 e3
  unfold maxLen at h2
  exact ⟨e2, by omega, by omega⟩
theorem slR_len {α : Type} {R : World → Nat → List Value → α → Prop} {size : Nat} {w : World} {B n c : Nat} {A : Option Addr} {xs : List α} (h : SlR R size w B (.slice A n c) xs) : n = xs.length ∧ xs.length ≤ c ∧ c ≤ 9223372036854775807 := slR_len' h
end Go.Proofs.YthlfpiflegfoiaaGreatDoor
