/- The reference's reader of a patch. -/
import Derived.Test.YtmgdodgofpapgaaDoorRC
namespace Go.Proofs.YtmgdodgofpapgaaDoor
open Go.RowKit Go.Lib

theorem inv_never {α : Type} {ok : α → Bool} {f : α → List UInt8} {t : List UInt8} (h : ∀ q, ok q = true → f q = t → False) : inv ok f t = none := by
  unfold inv
  rw [dif_neg]
  rintro ⟨q, h1, h2⟩
  exact h q h1 h2
theorem splitC_len (c : UInt8) : ∀ (l : List UInt8) (p : List UInt8), p ∈ splitC c l → p.length ≤ l.length
  | [], p, h => by simp [splitC] at h; subst h; simp
  | x :: l, p, h => by
    have ih := splitC_len c l
    unfold splitC at h
    split at h
    · rcases List.mem_cons.1 h with rfl | h
      · simp
      · have := ih p h; simp; omega
    · revert h
      cases hs : splitC c l with
      | nil => exact absurd hs (splitC_ne c l)
      | cons a r =>
        intro h
        rcases List.mem_cons.1 h with rfl | h
        · have := ih a (by rw [hs]; simp); simp; omega
        · have := ih p (by rw [hs]; simp [h]); simp; omega
theorem splitNC_len (c : UInt8) : ∀ (k : Nat) (l : List UInt8) (p : List UInt8), p ∈ splitNC c k l → p.length ≤ l.length
  | 0, l, p, h => by
    rw [splitNC, List.mem_singleton] at h
    rw [h]
    exact Nat.le_refl _
  | k + 1, l, p, h => by
    rw [splitNC] at h
    obtain ⟨a1, a2⟩ := cutL_len c l
    split at h
    · rcases List.mem_cons.1 h with rfl | h
      · exact a1
      · exact Nat.le_trans (splitNC_len c k _ p h) a2
    · rw [List.mem_singleton] at h
      rw [h]
      exact Nat.le_refl _
theorem lineP_size (d : Bool) (lo hi : Int) (l : List UInt8) : (lineP d lo hi l).old.size ≤ l.length ∧ (lineP d lo hi l).new.size ≤ l.length := by
  cases l with
  | nil => exact ⟨Nat.le_refl _, Nat.le_refl _⟩
  | cons h r =>
    obtain ⟨a1, a2⟩ := cutL_len 32 r
    obtain ⟨b1, b2⟩ := cutL_len 124 (cutL 32 r).2
    rw [lineP, List.length_cons]
    split
    · constructor <;> simp [ByteArray.size] <;> omega
    · split
      · constructor <;> simp [ByteArray.size] <;> omega
      · split
        · constructor <;> simp [ByteArray.size] <;> omega
        · constructor <;> simp [ByteArray.size]

def PatchPost (l : List UInt8) (w : World) (e : Ending) (w' : World) : Prop :=
  ∃ v, e = .returned (.tuple #[v, .bool (patchOf l).isSome]) ∧ OwnL editCells ((patchOf l).getD []) w.heap.size w' v ∧ Below w.heap.size w w'
theorem Tryd.infoE : (Tryd.prog.info? 44).map (fun i => (i.zero, i.size, i.bytes)) = some (some (.agg #[.int .i64 0, .int .i64 0, .string ⟨#[]⟩, .string ⟨#[]⟩]), 4, 48) := by kernel_rfl
theorem new_at {w : World} {cs : List Value} {T : TypeId} {j : Nat} {u : Value} (h : cs[j]? = some u) : (w.alloc (.cells cs.toArray T)).cell? ((⟨w.heap.size, 0, none⟩ : Addr).add j) = some u := by
  have hr := (Row.new w cs.toArray T).cell j u (by simpa using h)
  unfold Addr.add
  by_cases h0 : j = 0
  · subst h0; simpa using hr
  · simpa [h0] using hr
theorem edit_one {q : Edit} {u : Value} (h : u ∈ editCells q) : u.oneCell' = true := by
  simp only [editCells, List.mem_cons, List.not_mem_nil, or_false] at h
  rcases h with rfl | rfl | rfl | rfl <;> rfl
theorem base_le {b : Nat} {w : World} {o : Obj} (h : b ≤ w.heap.size) : b ≤ (w.alloc o).heap.size := by simp; omega
theorem take_edits {α : Type} (f : α → List Value) {xs : List α} {k : Nat} {x : α} (h : xs[k]? = some x) : (xs.take (k + 1)).flatMap f = (xs.take k).flatMap f ++ f x := by
  obtain ⟨hk, rfl⟩ := List.getElem?_eq_some_iff.1 h
  rw [List.take_succ_eq_append_getElem hk, flat_snoc]

end Go.Proofs.YtmgdodgofpapgaaDoor
