/- Lists of numbers: is a number among them; who may be trusted. -/
import Derived.Test.YtmgdodgofpapgaaDoorLawD
namespace Go.Proofs.YtmgdodgofpapgaaDoor
open Go.RowKit

def intCells (z : Int) : List Value := [.int .i64 z]
def Ints (w : World) (B : Nat) (v : Value) (zs : List Int) : Prop := SlR (Pl intCells) 1 w B v zs

theorem ints_at {w : World} {B b off : Nat} {zs : List Int} (h : ∀ (k : Nat) (x : Int), zs[k]? = some x → ∃ us, us.length = 1 ∧ Pl intCells w B us x ∧ ∀ (j : Nat) (u : Value), us[j]? = some u → w.cell? ⟨b, off + k * 1 + j, none⟩ = some u) {k : Nat} {z : Int} (hk : zs[k]? = some z) :
    w.cell? ⟨b, off + k, none⟩ = some (.int .i64 z) := by
  obtain ⟨us, hl, hp, hc⟩ := h k z hk
  have hp : us = intCells z := hp
  subst hp
  have := hc 0 _ rfl
  simpa using this

theorem SlR.take {α : Type} {R : World → Nat → List Value → α → Prop} {size : Nat} {w : World} {B : Nat} {A : Option Addr} {n c : Nat} {xs : List α} (h : SlR R size w B (.slice A n c) xs) (k : Nat) (hk : k ≤ xs.length) : SlR R size w B (.slice A k c) (xs.take k) := by
  obtain ⟨A', c', hv, h1, h2, h3⟩ := h
  injection hv with e1 e2 e3
  subst e1 e3
  have hl : (xs.take k).length = k := by rw [List.length_take]; omega
  refine ⟨A, c, by rw [hl], by omega, h2, fun h0 => ?_⟩
  obtain ⟨b, off, hA, hb, hc⟩ := h3 (by omega)
  refine ⟨b, off, hA, hb, fun j x hx => hc j x ?_⟩
  rw [List.getElem?_take] at hx
  split at hx
  · exact hx
  · cases hx

def IndexPost (w : World) (zs : List Int) (x : Int) (e : Ending) (w' : World) : Prop :=
  ∃ n : Int, e = .returned (.int .i64 n) ∧ w' = w ∧ (0 ≤ n ↔ x ∈ zs) ∧ -1 ≤ n ∧ n ≤ 9223372036854775807 ∧ (0 ≤ n → zs[n.toNat]? = some x ∧ x ∉ zs.take n.toNat)

def trustAt (l : List Int) (member n : Int) (k : Nat) : Bool := inB (l.getD k 0) 0 (n - 1) && decide (l.getD k 0 ≠ member) && !((l.take k).contains (l.getD k 0))
theorem okTrust_eq (l : List Int) (member n : Int) : okTrust l member n = (allLt l.length (trustAt l member n) && decide (l.length ≤ 4)) := rfl
theorem okTrust_bad {l : List Int} {member n : Int} {k : Nat} (hk : k < l.length) (h : trustAt l member n k = false) : okTrust l member n = false := by
  rw [okTrust_eq, allLt_false hk h]
  rfl
theorem trustAt_eq {l : List Int} {member n : Int} {k : Nat} {z : Int} (hz : l[k]? = some z) : trustAt l member n k = (inB z 0 (n - 1) && decide (z ≠ member) && !((l.take k).contains z)) := by
  have e : l.getD k 0 = z := by rw [List.getD_eq_getElem?_getD, hz]; rfl
  unfold trustAt
  rw [e]

end Go.Proofs.YtmgdodgofpapgaaDoor
