/- Slices in memory, read as lists. -/
import Derived.Test.YthlfpiflegfoiaaGreatDoorBase
namespace Go.Proofs.YthlfpiflegfoiaaGreatDoor
open Go.RowKit

/-- The slice value v reads as the list xs, each element in 'size' cells that R relates to it; all of it below block B. -/
def SlR {α : Type} (R : World → Nat → List Value → α → Prop) (size : Nat) (w : World) (B : Nat) (v : Value) (xs : List α) : Prop :=
  ∃ (A : Option Addr) (c : Nat), v = .slice A xs.length c ∧ xs.length ≤ c ∧ c ≤ maxLen ∧
    (0 < xs.length → ∃ b off, A = some ⟨b, off, none⟩ ∧ b < B ∧
      ∀ (k : Nat) (x : α), xs[k]? = some x → ∃ us, us.length = size ∧ R w B us x ∧ ∀ (j : Nat) (u : Value), us[j]? = some u → w.cell? ⟨b, off + k * size + j, none⟩ = some u)

/-- Plain elements: the cells are a function of the element. -/
def Pl {α : Type} (f : α → List Value) : World → Nat → List Value → α → Prop := fun _ _ us x => us = f x

def Stays {α : Type} (R : World → Nat → List Value → α → Prop) : Prop := ∀ (w w' : World) (B B' : Nat) us x, R w B us x → Below B w w' → B ≤ B' → R w' B' us x

theorem Pl.stays {α : Type} (f : α → List Value) : Stays (Pl f) := fun _ _ _ _ _ _ h _ _ => h

theorem SlR.on {α : Type} {R : World → Nat → List Value → α → Prop} {size : Nat} {w w' : World} {B B' : Nat} {v : Value} {xs : List α} (h : SlR R size w B v xs) (hR : Stays R) (hb : Below B w w') (hB : B ≤ B') : SlR R size w' B' v xs := by
  obtain ⟨A, c, rfl, h1, h2, h3⟩ := h
  refine ⟨A, c, rfl, h1, h2, fun h0 => ?_⟩
  obtain ⟨b, off, rfl, hlt, hk⟩ := h3 h0
  refine ⟨b, off, rfl, by omega, fun k x hx => ?_⟩
  obtain ⟨us, hl, hr, hc⟩ := hk k x hx
  exact ⟨us, hl, hR _ _ _ _ _ _ hr hb hB, fun j u hu => (hb.cell (p := ⟨b, off + k * size + j, none⟩) hlt).trans (hc j u hu)⟩

/-- An empty list. -/
theorem SlR.nil {α : Type} (R : World → Nat → List Value → α → Prop) (size : Nat) (w : World) (B : Nat) (A : Option Addr) (c : Nat) (hc : c ≤ maxLen) : SlR R size w B (.slice A 0 c) ([] : List α) :=
  ⟨A, c, rfl, Nat.zero_le _, hc, fun h => absurd h (Nat.lt_irrefl 0)⟩

theorem flat_at {α β : Type} (f : α → List β) {size : Nat} (hf : ∀ x, (f x).length = size) : ∀ (xs : List α) (k : Nat) (x : α) (j : Nat) (u : β), xs[k]? = some x → (f x)[j]? = some u → j < size → (xs.flatMap f)[k * size + j]? = some u
  | [], k, x, j, u, hx, _, _ => by simp at hx
  | y :: ys, 0, x, j, u, hx, hu, hj => by
    simp only [List.getElem?_cons_zero, Option.some.injEq] at hx
    subst hx
    rw [List.flatMap_cons, List.getElem?_append_left (by rw [hf]; omega)]
    simpa using hu
  | y :: ys, k + 1, x, j, u, hx, hu, hj => by
    rw [List.flatMap_cons, List.getElem?_append_right (by rw [hf, Nat.succ_mul]; omega), hf, show (k + 1) * size + j - size = k * size + j by rw [Nat.succ_mul]; omega]
    exact flat_at f hf ys k x j u (by simpa using hx) hu hj

/-- What an append or a make has left: a row of the call's own. -/
theorem SlR.of_own {α : Type} (f : α → List Value) {size : Nat} {w : World} {base : Nat} {e : TypeId} {v : Value} {xs : List α} (hf : ∀ x, (f x).length = size) (h : w.ownsRow base e size v xs.length (xs.flatMap f)) : SlR (Pl f) size w w.heap.size v xs := by
  obtain ⟨hl, h | ⟨g, cap, cur, rfl, hg, hh, h1, h2, h3, h4⟩⟩ := h
  · obtain ⟨rfl, h0⟩ := h
    have : xs = [] := List.eq_nil_of_length_eq_zero h0
    subst this
    exact SlR.nil _ _ _ _ _ _ (Nat.zero_le _)
  · refine ⟨_, cap, rfl, h1, h2, fun h0 => ⟨g, 0, rfl, ?_, fun k x hx => ⟨f x, hf x, rfl, fun j u hu => ?_⟩⟩⟩
    · rcases Nat.lt_or_ge g w.heap.size with hlt | hge
      · exact hlt
      · rw [Array.getElem?_eq_none hge] at hh; cases hh
    · have hk : k < xs.length := (List.getElem?_eq_some_iff.1 hx).1
      have hj : j < size := by rw [← hf x]; exact (List.getElem?_eq_some_iff.1 hu).1
      have hflat := flat_at f hf xs k x j u hx hu hj
      have hlt : k * size + j < xs.length * size := by
        have : (k + 1) * size ≤ xs.length * size := Nat.mul_le_mul_right _ hk
        rw [Nat.succ_mul] at this
        omega
      have hcur : cur[k * size + j]? = some u := by
        rw [← Array.getElem?_toList, ← hflat, ← h4, List.getElem?_take, if_pos hlt]
      show w.cell? ⟨g, 0 + k * size + j, none⟩ = some u
      rw [Nat.zero_add]
      simp [World.cell?, hh, hcur]

end Go.Proofs.YthlfpiflegfoiaaGreatDoor
