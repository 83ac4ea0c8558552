/- The text of a deed, walked: the reference's. -/
import Derived.Test.YtmgdodgofpapgaaDoorLawO
import Derived.Test.YtmgdodgofpapgaaDoorLawJ
import Derived.Lib.ConvBytes
namespace Go.Proofs.YtmgdodgofpapgaaDoor
open Go.RowKit Go.Lib

theorem nums_one (z : Int) (sep : List UInt8) : nums [z] sep = itoa z := by
  unfold nums
  simp [Lib.join_cons, Lib.joinTail]
theorem nums_snoc (zs : List Int) (z : Int) (sep : List UInt8) (h : zs ≠ []) : nums (zs ++ [z]) sep = nums zs sep ++ (sep ++ itoa z) := by
  obtain ⟨a, r, rfl⟩ := List.exists_cons_of_ne_nil h
  unfold nums
  rw [List.cons_append, List.map_cons, List.map_cons, List.map_append, Lib.join_cons, Lib.join_cons]
  have : ∀ xs : List (List UInt8), Lib.joinTail sep (xs ++ [itoa z]) = Lib.joinTail sep xs ++ (sep ++ itoa z) := by
    intro xs
    simp [Lib.joinTail]
  rw [List.map_cons, List.map_nil, this, List.append_assoc]

/-- Bytes of the call's own, in a block of their own. -/
structure BytesOwn (w : World) (g : Nat) (l : List UInt8) : Prop where
  cell : ∀ j (c : UInt8), l[j]? = some c → w.cell? ⟨g, j, none⟩ = some (.int .u8 (c.toNat : Int))
  free : ∀ j, j < l.length → w.frozen? ⟨g, j, none⟩ = false
def swp (fr to_ : UInt8) (l : List UInt8) (k : Nat) : List UInt8 := (l.take k).map (fun c => if c = fr then to_ else c) ++ l.drop k
theorem swp_length (fr to_ : UInt8) (l : List UInt8) (k : Nat) : (swp fr to_ l k).length = l.length := by
  unfold swp
  rw [List.length_append, List.length_map, List.length_take, List.length_drop]
  omega
theorem swp_get (fr to_ : UInt8) (l : List UInt8) (k : Nat) (h : k < l.length) : (swp fr to_ l k)[k]? = some l[k] := by
  unfold swp
  rw [List.getElem?_append_right (by rw [List.length_map, List.length_take]; omega), List.length_map, List.length_take, List.getElem?_drop]
  rw [show k + (k - min k l.length) = k by omega]
  exact List.getElem?_eq_getElem h
theorem swp_succ (fr to_ : UInt8) (l : List UInt8) (k : Nat) (h : k < l.length) : swp fr to_ l (k + 1) = (swp fr to_ l k).set k (if l[k] = fr then to_ else l[k]) := by
  unfold swp
  rw [List.take_succ_eq_append_getElem h, List.map_append, List.set_append, if_neg (by rw [List.length_map, List.length_take]; omega), List.length_map, List.length_take, show k - min k l.length = 0 by omega]
  have e : (l.drop k).set 0 (if l[k] = fr then to_ else l[k]) = (if l[k] = fr then to_ else l[k]) :: l.drop (k + 1) := by
    rw [List.drop_eq_getElem_cons h]
    rfl
  rw [e]
  simp
theorem swp_keep (fr to_ : UInt8) (l : List UInt8) (k : Nat) (h : k < l.length) (hne : l[k] ≠ fr) : swp fr to_ l (k + 1) = swp fr to_ l k := by
  rw [swp_succ fr to_ l k h, if_neg hne]
  apply List.ext_getElem?
  intro j
  rw [List.getElem?_set]
  by_cases hj : k = j
  · subst hj
    rw [if_pos rfl, swp_get fr to_ l k h, if_pos (by rw [swp_length]; exact h)]
  · rw [if_neg hj]
theorem swp_all (fr to_ : UInt8) (l : List UInt8) (k : Nat) (h : l.length ≤ k) : swp fr to_ l k = l.map (fun c => if c = fr then to_ else c) := by
  unfold swp
  rw [List.take_of_length_le h, List.drop_eq_nil_of_le h, List.append_nil]
theorem BytesOwn.set {w : World} {g : Nat} {l : List UInt8} (h : BytesOwn w g l) (k : Nat) (c : UInt8) (hk : k < l.length) : BytesOwn (w.setCell ⟨g, k, none⟩ (.int .u8 (c.toNat : Int))) g (l.set k c) where
  cell := fun j d hj => by
    by_cases e : k = j
    · subst e
      rw [List.getElem?_set, if_pos rfl, if_pos hk] at hj
      injection hj with hj
      subst hj
      have := h.cell k l[k] (List.getElem?_eq_getElem hk)
      exact World.cell?_setCell_same _ _ _ this
    · rw [List.getElem?_set, if_neg e] at hj
      rw [World.cell?_setCell_other _ _ _ _ (by intro h; injection h with _ h; exact e h)]
      exact h.cell j d hj
  free := fun j hj => by
    rw [List.length_set] at hj
    rw [World.frozen?_setCell]
    exact h.free j hj

end Go.Proofs.YtmgdodgofpapgaaDoor
