/- Texts cut into parts, as plain functions. No program here. -/
import Derived.Test.YthlfpiflegfoiaaGreatDoorRep
import Derived.Lib.Join
namespace Go.Proofs.YthlfpiflegfoiaaGreatDoor
open Go.Lib

/-- A text up to the first byte of a kind, and behind it. -/
def cutL (c : UInt8) (l : List UInt8) : List UInt8 × List UInt8 := (l.takeWhile (· != c), (l.dropWhile (· != c)).drop 1)
theorem takeWhile_not {c : UInt8} : ∀ {a : List UInt8}, c ∉ a → a.takeWhile (· != c) = a ∧ a.dropWhile (· != c) = []
  | [], _ => ⟨rfl, rfl⟩
  | x :: a, h => by
    have hx : (x != c) = true := by simp; intro e; exact h (by simp [e])
    have ih := takeWhile_not (c := c) (a := a) (fun k => h (List.mem_cons_of_mem _ k))
    rw [List.takeWhile_cons, List.dropWhile_cons, if_pos hx, if_pos hx, ih.1, ih.2]
    exact ⟨rfl, rfl⟩
theorem takeWhile_at {c : UInt8} : ∀ {a : List UInt8} (r : List UInt8), c ∉ a → (a ++ c :: r).takeWhile (· != c) = a ∧ (a ++ c :: r).dropWhile (· != c) = c :: r
  | [], r, _ => by simp
  | x :: a, r, h => by
    have hx : (x != c) = true := by simp; intro e; exact h (by simp [e])
    have ih := takeWhile_at (c := c) (a := a) r (fun k => h (List.mem_cons_of_mem _ k))
    rw [List.cons_append, List.takeWhile_cons, List.dropWhile_cons, if_pos hx, if_pos hx, ih.1, ih.2]
    exact ⟨rfl, rfl⟩
theorem cutL_at {c : UInt8} {a : List UInt8} (r : List UInt8) (h : c ∉ a) : cutL c (a ++ c :: r) = (a, r) := by
  unfold cutL
  rw [(takeWhile_at r h).1, (takeWhile_at r h).2]
  rfl
theorem cutL_none {c : UInt8} {a : List UInt8} (h : c ∉ a) : cutL c a = (a, []) := by
  unfold cutL
  rw [(takeWhile_not h).1, (takeWhile_not h).2]
  rfl

/-- The parts of a text between bytes of a kind. -/
def splitC (c : UInt8) : List UInt8 → List (List UInt8)
  | [] => [[]]
  | x :: l => if x = c then [] :: splitC c l else match splitC c l with | s :: r => (x :: s) :: r | [] => [[x]]
theorem splitC_ne (c : UInt8) : ∀ l : List UInt8, splitC c l ≠ []
  | [] => by simp [splitC]
  | x :: l => by
    unfold splitC
    split
    · simp
    · split <;> simp
theorem splitC_at {c : UInt8} : ∀ {a : List UInt8} (r : List UInt8), c ∉ a → splitC c (a ++ c :: r) = a :: splitC c r
  | [], r, _ => by simp [splitC]
  | x :: a, r, h => by
    have hx : x ≠ c := fun e => h (by simp [e])
    rw [List.cons_append, splitC, if_neg hx, splitC_at r (fun k => h (List.mem_cons_of_mem _ k))]
theorem splitC_none {c : UInt8} : ∀ {a : List UInt8}, c ∉ a → splitC c a = [a]
  | [], _ => rfl
  | x :: a, h => by
    have hx : x ≠ c := fun e => h (by simp [e])
    rw [splitC, if_neg hx, splitC_none (fun k => h (List.mem_cons_of_mem _ k))]
theorem splitC_lines {α : Type} (c : UInt8) (f : α → List UInt8) : ∀ (xs : List α) (r : List UInt8), (∀ x ∈ xs, c ∉ f x) → splitC c (xs.flatMap (fun x => f x ++ [c]) ++ r) = xs.map f ++ splitC c r
  | [], r, _ => by simp
  | x :: xs, r, h => by
    rw [List.flatMap_cons, List.append_assoc, List.append_assoc, List.singleton_append, splitC_at _ (h x (by simp)), splitC_lines c f xs r (fun y hy => h y (by simp [hy]))]
    simp
theorem splitC_join {c : UInt8} : ∀ (x : List UInt8) (xs : List (List UInt8)), (∀ y ∈ x :: xs, c ∉ y) → splitC c (Lib.join (x :: xs) [c]) = x :: xs
  | x, [], h => by
    rw [Lib.join_cons]
    simp only [Lib.joinTail, List.map_nil, List.flatten_nil, List.append_nil]
    exact splitC_none (h x (by simp))
  | x, y :: ys, h => by
    have ih := splitC_join y ys (fun z hz => h z (by simp at hz ⊢; exact .inr hz))
    rw [Lib.join_cons] at ih ⊢
    have e : Lib.joinTail [c] (y :: ys) = c :: (y ++ Lib.joinTail [c] ys) := by simp [Lib.joinTail]
    rw [e, splitC_at _ (h x (by simp)), ih]

/-- Where a walk over a text stands: what is done, and the part that is begun. -/
theorem splitC_step {c : UInt8} (t : List UInt8) (done : List (List UInt8)) (fr i : Nat) (h : splitC c t = done ++ splitC c (t.drop fr)) (hf : fr ≤ i) (hi : i < t.length) (hc : t[i] = c) (hno : c ∉ (t.take i).drop fr) :
    splitC c t = (done ++ [(t.take i).drop fr]) ++ splitC c (t.drop (i + 1)) := by
  have e : t.drop fr = (t.take i).drop fr ++ c :: t.drop (i + 1) := by
    have h1 : t = t.take i ++ (t[i] :: t.drop (i + 1)) := by rw [← List.drop_eq_getElem_cons hi, List.take_append_drop]
    conv => lhs; rw [h1]
    rw [List.drop_append_of_le_length (by rw [List.length_take]; omega), hc]
  rw [h, e, splitC_at _ hno, List.append_assoc]
  rfl
theorem splitC_end {c : UInt8} (t : List UInt8) (done : List (List UInt8)) (fr : Nat) (h : splitC c t = done ++ splitC c (t.drop fr)) (hno : c ∉ t.drop fr) : splitC c t = done ++ [t.drop fr] := by
  rw [h, splitC_none hno]

end Go.Proofs.YthlfpiflegfoiaaGreatDoor
