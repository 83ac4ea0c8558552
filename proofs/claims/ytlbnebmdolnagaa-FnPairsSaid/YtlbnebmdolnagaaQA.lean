/- Decimal numerals: what is written is read back. No program here. A byte replaced by a byte, as the library's ReplaceAll does it. No program here. Texts cut into parts, as plain functions. No program here. What all walks share: the posts of contracts, and small laws on worlds. Is a number in a range: the reference. Is a number in a range: the program. Slices in memory, read as lists. The texts of sentences, patches and deeds, as plain functions. No program here. Sentences, edits and patches: the program's tests, walked. Edits and patches: the program's tests, walked. Patches: the program's test, walked. Names and small tests, walked: the program's and the reference's. Lists of numbers: is a number among them; who may be trusted. Deeds: the program's test, walked. What the library's functions do, and numbers as texts. The text of a patch, walked: the program's. Numbers in a row as a text, walked: the program's. -/
import Derived.Lib.ItoaLen
import Derived.Lib.ParseIntB
import Derived.Lib.IndexMore
import Derived.Lib.ItoaNum
import Derived.Lib.Replace
import Derived.Lib.CountLaws
import Derived.Lib.Join
import Derived.Test.YtlbnebmdolnagaaProg
import Derived.WalkKit
import Derived.WalkSpells
import Derived.WalkLawsBesides
import Derived.Deep.QuietTactic
import Derived.BigQuiet
import Derived.Lib.Hide
import Derived.Deep.DeepCutAuto
import Derived.Deep.RegionHeld3
import Derived.RegionCalls
import Derived.Test.YtlbnebmdolnagaaShelf
import Derived.Lib.AppendIntMem
import Derived.Lib.AtoiErrMem
namespace Go.Proofs.Ytlbnebmdolnagaa
open Go.Lib

def isDigit (c : UInt8) : Prop := 48 ≤ c.toNat ∧ c.toNat ≤ 57

theorem digit_of (d : Nat) (h : d < 10) : (UInt8.ofNat (48 + d)).toNat = 48 + d := by
  rw [UInt8.toNat_ofNat']
  omega

theorem decDigits_digits (u : Nat) : ∀ c ∈ decDigits u, isDigit c := by
  induction u using Nat.strongRecOn with
  | _ u ih =>
    intro c hc
    rw [decDigits] at hc
    split at hc
    · rw [List.mem_singleton] at hc
      subst hc
      unfold isDigit
      rw [digit_of u (by omega)]
      omega
    · rw [List.mem_append] at hc
      rcases hc with hc | hc
      · exact ih _ (by omega) c hc
      · rw [List.mem_singleton] at hc
        subst hc
        unfold isDigit
        rw [digit_of (u % 10) (by omega)]
        omega

theorem decDigits_ne (u : Nat) : decDigits u ≠ [] := by
  rw [decDigits]
  split <;> simp

theorem parse_append (M : Nat) : ∀ (l r : List UInt8) (acc a : Nat), parseUintM M acc l = .ok a → parseUintM M acc (l ++ r) = parseUintM M a r
  | [], r, acc, a, h => by
    simp only [parseUintM] at h
    injection h with h
    subst h
    rfl
  | c :: l, r, acc, a, h => by
    rw [List.cons_append]
    simp only [parseUintM] at h ⊢
    by_cases h1 : 48 ≤ c.toNat ∧ c.toNat ≤ 57
    · rw [if_pos h1] at h ⊢
      by_cases h2 : 1844674407370955162 ≤ acc
      · rw [if_pos h2] at h
        cases h
      · rw [if_neg h2] at h ⊢
        by_cases h3 : M < acc * 10 + (c.toNat - 48)
        · rw [if_pos h3] at h
          cases h
        · rw [if_neg h3] at h ⊢
          exact parse_append M l r _ a h
    · rw [if_neg h1] at h
      cases h

theorem parse_digits (M : Nat) (hM : M ≤ 18446744073709551615) (u : Nat) (hu : u ≤ M) : parseUintM M 0 (decDigits u) = .ok u := by
  induction u using Nat.strongRecOn with
  | _ u ih =>
    rw [decDigits]
    split
    · rename_i h
      unfold parseUintM
      rw [digit_of u h, if_pos (by omega), if_neg (by omega), if_neg (by omega)]
      simp [parseUintM]
    · rename_i h
      rw [parse_append M _ _ _ _ (ih (u / 10) (by omega) (by omega))]
      unfold parseUintM
      rw [digit_of (u % 10) (by omega), if_pos (by omega), if_neg (by omega), if_neg (by omega)]
      simp only [parseUintM]
      congr 1
      omega

theorem digits_head (u : Nat) : ∃ c r, decDigits u = c :: r ∧ isDigit c := by
  cases h : decDigits u with
  | nil => exact absurd h (decDigits_ne u)
  | cons c r => exact ⟨c, r, rfl, decDigits_digits u c (by rw [h]; simp)⟩

theorem parse_itoa (n : Int) (h1 : -9223372036854775808 ≤ n) (h2 : n ≤ 9223372036854775807) : parseIntB 64 (itoa n) = .ok n := by
  unfold itoa
  split
  · rename_i h
    have hp := parse_digits 18446744073709551615 (by decide) n.natAbs (by omega)
    have hu : parseUintB 64 (decDigits n.natAbs) = .ok n.natAbs := by
      unfold parseUintB
      rw [if_neg (decDigits_ne _)]
      exact hp
    have e : (45 : UInt8).toNat = 45 := rfl
    unfold parseIntB
    simp only [e, or_true, if_true, hu]
    rw [if_neg (by simp), if_neg (by rintro ⟨_, h⟩; simp at h; omega)]
    congr 1
    omega
  · rename_i h
    obtain ⟨c, r, hd, hc⟩ := digits_head n.toNat
    unfold isDigit at hc
    have hp := parse_digits 18446744073709551615 (by decide) n.toNat (by omega)
    rw [hd] at hp ⊢
    have hu : parseUintB 64 (c :: r) = .ok n.toNat := by
      unfold parseUintB
      rw [if_neg (by simp)]
      exact hp
    have e1 : ¬ c.toNat = 43 := by omega
    have e2 : ¬ c.toNat = 45 := by omega
    unfold parseIntB
    simp only [e1, e2, or_false, if_false]
    rw [hu]
    simp only []
    rw [if_neg (by rintro ⟨_, h⟩; simp at h; omega), if_neg (by rintro ⟨h, _⟩; exact h)]
    congr 1
    omega

theorem itoa_inj {a b : Int} (h1 : -9223372036854775808 ≤ a) (h2 : a ≤ 9223372036854775807) (h3 : -9223372036854775808 ≤ b) (h4 : b ≤ 9223372036854775807) (h : itoa a = itoa b) : a = b := by
  have e := parse_itoa a h1 h2
  rw [h, parse_itoa b h3 h4] at e
  injection e with e
  exact e.symm

/-- A numeral's bytes: digits and the minus. -/
theorem itoa_bytes (n : Int) : ∀ c ∈ itoa n, isDigit c ∨ c = 45 := by
  intro c hc
  unfold itoa at hc
  split at hc
  · simp at hc
    rcases hc with rfl | hc
    · exact .inr rfl
    · exact .inl (decDigits_digits _ c hc)
  · exact .inl (decDigits_digits _ c hc)

theorem itoa_ne (n : Int) : itoa n ≠ [] := by
  unfold itoa
  split
  · simp
  · exact decDigits_ne _

theorem index_one (l r : List UInt8) (c : UInt8) (h : c ∉ l) : index (l ++ c :: r) [c] = l.length := by
  induction l with
  | nil => simp [index]
  | cons b l ih =>
    have hb : b ≠ c := fun e => h (by simp [e])
    have hl : c ∉ l := fun e => h (by simp [e])
    rw [List.cons_append]
    unfold index
    rw [ih hl]
    have hp : ([c] : List UInt8).isPrefixOf (b :: (l ++ c :: r)) = false := by
      simp [List.isPrefixOf]
      exact fun e => hb e.symm
    rw [hp]
    have : ((l.length : Int) == -1) = false := by rw [beq_eq_false_iff_ne]; omega
    simp [this]

theorem index_none (l : List UInt8) (c : UInt8) (h : c ∉ l) : index l [c] = -1 := by
  induction l with
  | nil => simp [index]
  | cons b l ih =>
    have hb : b ≠ c := fun e => h (by simp [e])
    have hl : c ∉ l := fun e => h (by simp [e])
    unfold index
    rw [ih hl]
    have hp : ([c] : List UInt8).isPrefixOf (b :: l) = false := by
      simp [List.isPrefixOf]
      exact fun e => hb e.symm
    rw [hp]
    simp

theorem cut_at (l r : List UInt8) (c : UInt8) (h : c ∉ l) : cut (l ++ c :: r) [c] = (l, r, true) := by
  unfold cut
  rw [index_one l r c h, if_pos (by omega)]
  simp [List.drop_append]

theorem cut_none (l : List UInt8) (c : UInt8) (h : c ∉ l) : cut l [c] = (l, [], false) := by
  unfold cut
  rw [index_none l c h, if_neg (by omega)]

end Go.Proofs.Ytlbnebmdolnagaa

namespace Go.Proofs.Ytlbnebmdolnagaa
open Go.Lib

theorem split_at (c : UInt8) : ∀ l : List UInt8, c ∈ l → ∃ a r, l = a ++ c :: r ∧ c ∉ a
  | [], h => by cases h
  | x :: l, h => by
    by_cases e : x = c
    · exact ⟨[], l, by rw [e]; rfl, by simp⟩
    · obtain ⟨a, r, h1, h2⟩ := split_at c l (by rcases List.mem_cons.1 h with h | h; exact absurd h.symm e; exact h)
      exact ⟨x :: a, r, by rw [h1]; rfl, by rw [List.mem_cons]; rintro (h | h); exact e h.symm; exact h2 h⟩
theorem map_id_not (c d : UInt8) (l : List UInt8) (h : c ∉ l) : l.map (fun x => if x = c then d else x) = l := by
  conv => rhs; rw [← List.map_id l]
  apply List.map_congr_left
  intro x hx
  rw [if_neg (by rintro rfl; exact h hx)]
  rfl

theorem replaceK_map (c d : UInt8) : ∀ (n : Nat) (l : List UInt8), l.length ≤ n → replaceK [c] [d] (count l [c]) l = l.map (fun x => if x = c then d else x)
  | 0, l, h => by
    have : l = [] := List.eq_nil_of_length_eq_zero (by omega)
    subst this
    rw [count_miss (index_none [] c (by simp))]
    rfl
  | n + 1, l, h => by
    by_cases hc : c ∈ l
    · obtain ⟨a, r, rfl, ha⟩ := split_at c l hc
      have hi := index_one a r c ha
      have hcnt : count (a ++ c :: r) [c] = count r [c] + 1 := by
        have := count_hit (s := a ++ c :: r) (sub := [c]) (i := a.length) (by simp) hi
        rw [this, Nat.add_comm]
        congr 2
        simp
      rw [hcnt, replaceK_hit _ _ _ _ _ hi]
      have hd : (a ++ c :: r).drop (a.length + [c].length) = r := by simp
      rw [hd, replaceK_map c d n r (by simp at h; omega), List.map_append, List.map_cons, if_pos rfl, map_id_not c d a ha]
      simp
    · rw [count_miss (index_none l c hc), map_id_not c d l hc]
      rfl
theorem replaceAll_map (c d : UInt8) (h : c ≠ d) (l : List UInt8) : replaceAll l [c] [d] = l.map (fun x => if x = c then d else x) := by
  unfold replaceAll replace
  have : ([c] == [d]) = false := by simp [h]
  rw [this]
  have hn : replaceNum l [c] (-1) = count l [c] := by unfold replaceNum; rw [if_pos (.inl (by omega))]
  rw [hn]
  exact replaceK_map c d l.length l (Nat.le_refl _)

end Go.Proofs.Ytlbnebmdolnagaa

namespace Go.Proofs.Ytlbnebmdolnagaa
open Go.Lib

/-- A text up to the first byte of a kind, and behind it. -/
def cutL (c : UInt8) (l : List UInt8) : List UInt8 × List UInt8 := (l.takeWhile (· != c), (l.dropWhile (· != c)).drop 1)
theorem takeWhile_not {c : UInt8} : ∀ {a : List UInt8}, c ∉ a → a.takeWhile (· != c) = a ∧ a.dropWhile (· != c) = []
  | [], _ => ⟨rfl, rfl⟩
  | x :: a, h => by
    have hx : (x != c) = true := by simp; intro e; exact h (by simp [e])
    have ih := takeWhile_not (c := c) (a := a) (fun k => h (List.mem_cons_of_mem _ k))
    rw [List.takeWhile_cons, List.dropWhile_cons, if_pos hx, if_pos hx, ih.1, ih.2]
    exact ⟨rfl, rfl⟩
theorem takeWhile_at {c : UInt8} : ∀ {a : List UInt8} (r : List UInt8), c ∉ a → (a ++ c :: r).takeWhile (· != c) = a ∧ (a ++ c :: r).dropWhile (· != c) = c :: r
  | [], r, _ => by simp
  | x :: a, r, h => by
    have hx : (x != c) = true := by simp; intro e; exact h (by simp [e])
    have ih := takeWhile_at (c := c) (a := a) r (fun k => h (List.mem_cons_of_mem _ k))
    rw [List.cons_append, List.takeWhile_cons, List.dropWhile_cons, if_pos hx, if_pos hx, ih.1, ih.2]
    exact ⟨rfl, rfl⟩
theorem cutL_at {c : UInt8} {a : List UInt8} (r : List UInt8) (h : c ∉ a) : cutL c (a ++ c :: r) = (a, r) := by
  unfold cutL
  rw [(takeWhile_at r h).1, (takeWhile_at r h).2]
  rfl
theorem cutL_none {c : UInt8} {a : List UInt8} (h : c ∉ a) : cutL c a = (a, []) := by
  unfold cutL
  rw [(takeWhile_not h).1, (takeWhile_not h).2]
  rfl

/-- The parts of a text between bytes of a kind. -/
def splitC (c : UInt8) : List UInt8 → List (List UInt8)
  | [] => [[]]
  | x :: l => if x = c then [] :: splitC c l else match splitC c l with | s :: r => (x :: s) :: r | [] => [[x]]
theorem splitC_ne (c : UInt8) : ∀ l : List UInt8, splitC c l ≠ []
  | [] => by simp [splitC]
  | x :: l => by
    unfold splitC
    split
    · simp
    · split <;> simp
theorem splitC_at {c : UInt8} : ∀ {a : List UInt8} (r : List UInt8), c ∉ a → splitC c (a ++ c :: r) = a :: splitC c r
  | [], r, _ => by simp [splitC]
  | x :: a, r, h => by
    have hx : x ≠ c := fun e => h (by simp [e])
    rw [List.cons_append, splitC, if_neg hx, splitC_at r (fun k => h (List.mem_cons_of_mem _ k))]
theorem splitC_none {c : UInt8} : ∀ {a : List UInt8}, c ∉ a → splitC c a = [a]
  | [], _ => rfl
  | x :: a, h => by
    have hx : x ≠ c := fun e => h (by simp [e])
    rw [splitC, if_neg hx, splitC_none (fun k => h (List.mem_cons_of_mem _ k))]
theorem splitC_lines {α : Type} (c : UInt8) (f : α → List UInt8) : ∀ (xs : List α) (r : List UInt8), (∀ x ∈ xs, c ∉ f x) → splitC c (xs.flatMap (fun x => f x ++ [c]) ++ r) = xs.map f ++ splitC c r
  | [], r, _ => by simp
  | x :: xs, r, h => by
    rw [List.flatMap_cons, List.append_assoc, List.append_assoc, List.singleton_append, splitC_at _ (h x (by simp)), splitC_lines c f xs r (fun y hy => h y (by simp [hy]))]
    simp
theorem splitC_join {c : UInt8} : ∀ (x : List UInt8) (xs : List (List UInt8)), (∀ y ∈ x :: xs, c ∉ y) → splitC c (Lib.join (x :: xs) [c]) = x :: xs
  | x, [], h => by
    rw [Lib.join_cons]
    simp only [Lib.joinTail, List.map_nil, List.flatten_nil, List.append_nil]
    exact splitC_none (h x (by simp))
  | x, y :: ys, h => by
    have ih := splitC_join y ys (fun z hz => h z (by simp at hz ⊢; exact .inr hz))
    rw [Lib.join_cons] at ih ⊢
    have e : Lib.joinTail [c] (y :: ys) = c :: (y ++ Lib.joinTail [c] ys) := by simp [Lib.joinTail]
    rw [e, splitC_at _ (h x (by simp)), ih]

/-- Where a walk over a text stands: what is done, and the part that is begun. -/
theorem splitC_step {c : UInt8} (t : List UInt8) (done : List (List UInt8)) (fr i : Nat) (h : splitC c t = done ++ splitC c (t.drop fr)) (hf : fr ≤ i) (hi : i < t.length) (hc : t[i] = c) (hno : c ∉ (t.take i).drop fr) :
    splitC c t = (done ++ [(t.take i).drop fr]) ++ splitC c (t.drop (i + 1)) := by
  have e : t.drop fr = (t.take i).drop fr ++ c :: t.drop (i + 1) := by
    have h1 : t = t.take i ++ (t[i] :: t.drop (i + 1)) := by rw [← List.drop_eq_getElem_cons hi, List.take_append_drop]
    conv => lhs; rw [h1]
    rw [List.drop_append_of_le_length (by rw [List.length_take]; omega), hc]
  rw [h, e, splitC_at _ hno, List.append_assoc]
  rfl
theorem splitC_end {c : UInt8} (t : List UInt8) (done : List (List UInt8)) (fr : Nat) (h : splitC c t = done ++ splitC c (t.drop fr)) (hno : c ∉ t.drop fr) : splitC c t = done ++ [t.drop fr] := by
  rw [h, splitC_none hno]

end Go.Proofs.Ytlbnebmdolnagaa

namespace Go.Proofs.Ytlbnebmdolnagaa
open Go.RowKit

/-- Only block b and what is new has turned. -/
def Only (b : Nat) (w w' : World) : Prop := w.grownBy w' (some b)

theorem only_drewN {w w' : World} {b : Nat} (h : Only b w w') (n : Nat) : Only b w (w'.drewN n) := ⟨h.os, h.tape, h.output, h.size, h.block⟩
theorem only_refl (b : Nat) (w : World) : Only b w w := ⟨rfl, rfl, rfl, Nat.le_refl _, fun _ _ _ => rfl⟩
theorem only_trans {a b c : World} {g : Nat} (h : Only g a b) (k : Only g b c) : Only g a c :=
  ⟨k.os.trans h.os, k.tape.trans h.tape, k.output.trans h.output, Nat.le_trans h.size k.size, fun i hi hn => (k.block i (Nat.lt_of_lt_of_le hi h.size) hn).trans (h.block i hi hn)⟩
theorem only_setCell {a w : World} {g : Nat} (h : Only g a w) {p : Addr} (hp : p.block = g ∨ a.heap.size ≤ p.block) (u : Value) : Only g a (w.setCell p u) :=
  ⟨h.os, h.tape, h.output, by simpa [World.setCell] using h.size, fun i hi hne => (Below.heap_setCell w p u i (by
    rintro rfl
    rcases hp with hp | hp
    · exact hne (by rw [hp])
    · omega)).trans (h.block i hi hne)⟩
theorem only_below {a w : World} {g B : Nat} (h : Only g a w) (hB : B ≤ g) (hs : B ≤ a.heap.size) : Below B a w :=
  ⟨h.os, h.tape, h.output, h.size, fun i hi => h.block i (by omega) (fun e => by injection e; omega)⟩

theorem only_cells {b : Nat} {w w1 : World} (h : Only b w w1) (c o : Nat) (hc : c < w.heap.size) (hne : c ≠ b) : w1.cell? ⟨c, o, none⟩ = w.cell? ⟨c, o, none⟩ ∧ w1.frozen? ⟨c, o, none⟩ = w.frozen? ⟨c, o, none⟩ := by
  have e : w1.heap[c]? = w.heap[c]? := h.block c hc (fun e => hne (by injection e))
  exact ⟨World.cell?_of_block e, World.frozen?_of_block e⟩

theorem ret_i64 {a b : Int} (h : a = b) : Ending.returned (.int .i64 a) = .returned (.int .i64 b) := by rw [h]

def RetInt (n : Int) (w : World) (e : Ending) (w' : World) : Prop := e = .returned (.int .i64 n) ∧ w = w'

theorem below_drewN {B : Nat} {a w : World} (h : Below B a w) (n : Nat) : Below B a (w.drewN n) := ⟨h.os, h.tape, h.output, h.size, h.block⟩
theorem bcell {W w1 : World} (hb : Below W.heap.size W w1) : (∀ b o, b < W.heap.size → w1.cell? ⟨b, o, none⟩ = W.cell? ⟨b, o, none⟩) ∧ (∀ b o, b < W.heap.size → w1.frozen? ⟨b, o, none⟩ = W.frozen? ⟨b, o, none⟩) :=
  ⟨fun b o h => hb.cell (p := ⟨b, o, none⟩) h, fun b o h => hb.frozen (p := ⟨b, o, none⟩) h⟩
def RetQ (v : Value) (w : World) (e : Ending) (w' : World) : Prop := e = .returned v ∧ ∃ k, w' = w.drewN k
def RetB (v : Value) (w : World) (e : Ending) (w' : World) : Prop := e = .returned v ∧ Below w.heap.size w w'

theorem quiet_q {P : Program} {f : FuncId} {args : Array Value} {w : World} {n : Nat} {v : Value} (h : Calls P f args (w.drewN n) (RetQ v (w.drewN n))) :
    Calls P f args (w.drewN n) fun e w'' => e = .returned v ∧ ∃ m, w'' = w.drewN m :=
  h.mono fun _ _ ⟨he, m, hm⟩ => ⟨he, n + m, by rw [hm, World.drewN_drewN]⟩
theorem retQ_of {P : Program} {f : FuncId} {args : Array Value} {w : World} {n : Int} (h : Calls P f args w (RetInt n w)) : Calls P f args w (RetQ (.int .i64 n) w) :=
  h.mono fun _ _ ⟨he, hw⟩ => ⟨he, 0, hw ▸ rfl⟩

/-- A world in which all that was in W is as it was. -/
structure Aft (W : World) where
  val : World
  ok : Below W.heap.size W val

instance aft_ne (W : World) : Nonempty (Aft W) := ⟨⟨W, Below.refl _ _⟩⟩

theorem Aft.cell {W : World} (x : Aft W) {b o : Nat} {v : Value} (h : W.cell? ⟨b, o, none⟩ = some v) : x.val.cell? ⟨b, o, none⟩ = some v := by
  have hb : b < W.heap.size := World.block_lt_of_cell? W ⟨b, o, none⟩ h
  exact (x.ok.cell (p := ⟨b, o, none⟩) hb).trans h
theorem Aft.frozen {W : World} (x : Aft W) {b o : Nat} (hb : b < W.heap.size) : x.val.frozen? ⟨b, o, none⟩ = W.frozen? ⟨b, o, none⟩ := x.ok.frozen (p := ⟨b, o, none⟩) hb

/-- A region that draws its order, whose operations read and whose calls leave what was as it was: one walk in the text's order. -/
theorem wp_region_aft {P : Program} {id : Nat} {Q : Exit → Act → World → Prop} {a : Act} {W : World} {l : List Oper} (hm : P.follows .mixedOrders = true) (hB : Region.lexB .any l.toArray = true)
    (h : wpQuiet P l.toArray (fun w' => ∃ x : Aft W, w' = x.val) (fun a' => ∀ w', (∃ x : Aft W, w' = x.val) → Q .normal a' w') l a) : (Code.region id l.toArray true).wp P Q a W :=
  wp_region_quiet (C := fun w' => ∃ x : Aft W, w' = x.val) hm hB ⟨⟨W.drew, (Below.refl _ _).drew⟩, rfl⟩ (by simpa using h)

theorem aft_b {P : Program} {f : FuncId} {args : Array Value} {W : World} {x : Aft W} {v : Value} (h : Calls P f args x.val (RetB v x.val)) :
    Calls P f args x.val fun e w'' => e = .returned v ∧ ∃ y : Aft W, w'' = y.val :=
  h.mono fun _ w'' ⟨he, hb⟩ => ⟨he, ⟨w'', x.ok.trans (hb.mono x.ok.size)⟩, rfl⟩
theorem aft_q {P : Program} {f : FuncId} {args : Array Value} {W : World} {x : Aft W} {v : Value} (h : Calls P f args x.val (RetQ v x.val)) :
    Calls P f args x.val fun e w'' => e = .returned v ∧ ∃ y : Aft W, w'' = y.val :=
  h.mono fun _ w'' ⟨he, k, hk⟩ => ⟨he, ⟨w'', by rw [hk]; exact below_drewN x.ok k⟩, rfl⟩

def inB (n a b : Int) : Bool := decide (a ≤ n) && decide (n ≤ b)
theorem inB_true {n a b : Int} (h1 : a ≤ n) (h2 : n ≤ b) : inB n a b = true := by unfold inB; simp [h1, h2]
theorem inB_false {n a b : Int} (h : n < a ∨ b < n) : inB n a b = false := by
  unfold inB
  rcases h with h | h
  · have : ¬ a ≤ n := by omega
    simp [this]
  · have : ¬ n ≤ b := by omega
    simp [this]
theorem inB_iff {n a b : Int} : inB n a b = true ↔ a ≤ n ∧ n ≤ b := by unfold inB; simp

end Go.Proofs.Ytlbnebmdolnagaa

namespace Go.Proofs.Ytlbnebmdolnagaa
open Go.RowKit

end Go.Proofs.Ytlbnebmdolnagaa

namespace Go.Proofs.Ytlbnebmdolnagaa
open Go.RowKit

set_option maxHeartbeats 400000 in
theorem in2_yes (n a b : Int) (w : World) (h1 : a ≤ n) (h2 : n ≤ b) :
    Calls Try.prog 66 #[.int .i64 n, .int .i64 a, .int .i64 b] w (RetQ (.bool true) w) := by
  go_enter Try.func66, Try.ntmps66
  go_wp2
  go_ret
  exact ⟨rfl, 0, rfl⟩
set_option maxHeartbeats 400000 in
theorem in2_no (n a b : Int) (w : World) (h : n < a ∨ b < n) :
    Calls Try.prog 66 #[.int .i64 n, .int .i64 a, .int .i64 b] w (RetQ (.bool false) w) := by
  by_cases h1 : a ≤ n
  · have h2 : decide (n ≤ b) = false := by simp; omega
    clear h
    go_enter Try.func66, Try.ntmps66
    go_wp2
    go_ret
    exact ⟨rfl, 0, rfl⟩
  · have h2 : n < a := by omega
    clear h
    go_enter Try.func66, Try.ntmps66
    go_wp2
    go_ret
    exact ⟨rfl, 0, rfl⟩


theorem in2_any (n a b : Int) (w : World) :
    Calls Try.prog 66 #[.int .i64 n, .int .i64 a, .int .i64 b] w (RetQ (.bool (inB n a b)) w) := by
  by_cases h : a ≤ n ∧ n ≤ b
  · rw [inB_true h.1 h.2]
    exact in2_yes n a b w h.1 h.2
  · have h' : n < a ∨ b < n := by omega
    rw [inB_false h']
    exact in2_no n a b w h'

end Go.Proofs.Ytlbnebmdolnagaa

namespace Go.Proofs.Ytlbnebmdolnagaa
open Go.RowKit

/-- The slice value v reads as the list xs, each element in 'size' cells that R relates to it; all of it below block B. -/
def SlR {α : Type} (R : World → Nat → List Value → α → Prop) (size : Nat) (w : World) (B : Nat) (v : Value) (xs : List α) : Prop :=
  ∃ (A : Option Addr) (c : Nat), v = .slice A xs.length c ∧ xs.length ≤ c ∧ c ≤ maxLen ∧
    (0 < xs.length → ∃ b off, A = some ⟨b, off, none⟩ ∧ b < B ∧
      ∀ (k : Nat) (x : α), xs[k]? = some x → ∃ us, us.length = size ∧ R w B us x ∧ ∀ (j : Nat) (u : Value), us[j]? = some u → w.cell? ⟨b, off + k * size + j, none⟩ = some u)

/-- Plain elements: the cells are a function of the element. -/
def Pl {α : Type} (f : α → List Value) : World → Nat → List Value → α → Prop := fun _ _ us x => us = f x

def Stays {α : Type} (R : World → Nat → List Value → α → Prop) : Prop := ∀ (w w' : World) (B B' : Nat) us x, R w B us x → Below B w w' → B ≤ B' → R w' B' us x

theorem Pl.stays {α : Type} (f : α → List Value) : Stays (Pl f) := fun _ _ _ _ _ _ h _ _ => h

theorem SlR.on {α : Type} {R : World → Nat → List Value → α → Prop} {size : Nat} {w w' : World} {B B' : Nat} {v : Value} {xs : List α} (h : SlR R size w B v xs) (hR : Stays R) (hb : Below B w w') (hB : B ≤ B') : SlR R size w' B' v xs := by
  obtain ⟨A, c, rfl, h1, h2, h3⟩ := h
  refine ⟨A, c, rfl, h1, h2, fun h0 => ?_⟩
  obtain ⟨b, off, rfl, hlt, hk⟩ := h3 h0
  refine ⟨b, off, rfl, by omega, fun k x hx => ?_⟩
  obtain ⟨us, hl, hr, hc⟩ := hk k x hx
  exact ⟨us, hl, hR _ _ _ _ _ _ hr hb hB, fun j u hu => (hb.cell (p := ⟨b, off + k * size + j, none⟩) hlt).trans (hc j u hu)⟩

/-- An empty list. -/
theorem SlR.nil {α : Type} (R : World → Nat → List Value → α → Prop) (size : Nat) (w : World) (B : Nat) (A : Option Addr) (c : Nat) (hc : c ≤ maxLen) : SlR R size w B (.slice A 0 c) ([] : List α) :=
  ⟨A, c, rfl, Nat.zero_le _, hc, fun h => absurd h (Nat.lt_irrefl 0)⟩

theorem flat_at {α β : Type} (f : α → List β) {size : Nat} (hf : ∀ x, (f x).length = size) : ∀ (xs : List α) (k : Nat) (x : α) (j : Nat) (u : β), xs[k]? = some x → (f x)[j]? = some u → j < size → (xs.flatMap f)[k * size + j]? = some u
  | [], k, x, j, u, hx, _, _ => by simp at hx
  | y :: ys, 0, x, j, u, hx, hu, hj => by
    simp only [List.getElem?_cons_zero, Option.some.injEq] at hx
    subst hx
    rw [List.flatMap_cons, List.getElem?_append_left (by rw [hf]; omega)]
    simpa using hu
  | y :: ys, k + 1, x, j, u, hx, hu, hj => by
    rw [List.flatMap_cons, List.getElem?_append_right (by rw [hf, Nat.succ_mul]; omega), hf, show (k + 1) * size + j - size = k * size + j by rw [Nat.succ_mul]; omega]
    exact flat_at f hf ys k x j u (by simpa using hx) hu hj

/-- What an append or a make has left: a row of the call's own. -/
theorem SlR.of_own {α : Type} (f : α → List Value) {size : Nat} {w : World} {base : Nat} {e : TypeId} {v : Value} {xs : List α} (hf : ∀ x, (f x).length = size) (h : w.ownsRow base e size v xs.length (xs.flatMap f)) : SlR (Pl f) size w w.heap.size v xs := by
  obtain ⟨hl, h | ⟨g, cap, cur, rfl, hg, hh, h1, h2, h3, h4⟩⟩ := h
  · obtain ⟨rfl, h0⟩ := h
    have : xs = [] := List.eq_nil_of_length_eq_zero h0
    subst this
    exact SlR.nil _ _ _ _ _ _ (Nat.zero_le _)
  · refine ⟨_, cap, rfl, h1, h2, fun h0 => ⟨g, 0, rfl, ?_, fun k x hx => ⟨f x, hf x, rfl, fun j u hu => ?_⟩⟩⟩
    · rcases Nat.lt_or_ge g w.heap.size with hlt | hge
      · exact hlt
      · rw [Array.getElem?_eq_none hge] at hh; cases hh
    · have hk : k < xs.length := (List.getElem?_eq_some_iff.1 hx).1
      have hj : j < size := by rw [← hf x]; exact (List.getElem?_eq_some_iff.1 hu).1
      have hflat := flat_at f hf xs k x j u hx hu hj
      have hlt : k * size + j < xs.length * size := by
        have : (k + 1) * size ≤ xs.length * size := Nat.mul_le_mul_right _ hk
        rw [Nat.succ_mul] at this
        omega
      have hcur : cur[k * size + j]? = some u := by
        rw [← Array.getElem?_toList, ← hflat, ← h4, List.getElem?_take, if_pos hlt]
      show w.cell? ⟨g, 0 + k * size + j, none⟩ = some u
      rw [Nat.zero_add]
      simp [World.cell?, hh, hcur]

end Go.Proofs.Ytlbnebmdolnagaa

namespace Go.Proofs.Ytlbnebmdolnagaa
open Go.Lib

def allLt (n : Nat) (f : Nat → Bool) : Bool := (List.range n).all f
theorem allLt_succ (n : Nat) (f : Nat → Bool) : allLt (n + 1) f = (allLt n f && f n) := by
  unfold allLt
  rw [List.range_succ, List.all_append]
  simp
theorem allLt_true {n : Nat} {f : Nat → Bool} : allLt n f = true ↔ ∀ k, k < n → f k = true := by
  unfold allLt
  simp
theorem allLt_false {n k : Nat} {f : Nat → Bool} (hk : k < n) (h : f k = false) : allLt n f = false := by
  rw [Bool.eq_false_iff]
  intro e
  rw [allLt_true] at e
  rw [e k hk] at h
  cases h

structure Edit where
  kind : Int
  id : Int
  old : ByteArray
  new : ByteArray

def editCells (e : Edit) : List Value := [.int .i64 e.kind, .int .i64 e.id, .string e.old, .string e.new]
def editV (e : Edit) : Value := .agg #[.int .i64 e.kind, .int .i64 e.id, .string e.old, .string e.new]

structure Deed where
  kind : Int
  member : Int
  trust : List Int
  title : ByteArray
  vote : Int
  patch : List Edit
  start : Int
  until_ : Int
  closes : Int

def sentCh (c : Nat) : Bool := (decide (97 ≤ c) && decide (c ≤ 122)) || (decide (48 ≤ c) && decide (c ≤ 57)) || decide (c = 32)
def byteAt (l : List UInt8) (k : Nat) : Nat := (l.getD k 0).toNat
def okSent (l : List UInt8) : Bool :=
  allLt l.length (fun k => sentCh (byteAt l k)) && decide (1 ≤ l.length) && decide (l.length ≤ 24) && decide (byteAt l 0 ≠ 32) && decide (byteAt l (l.length - 1) ≠ 32)

def okName (l : List UInt8) : Bool :=
  allLt l.length (fun k => decide (97 ≤ byteAt l k) && decide (byteAt l k ≤ 122)) && decide (1 ≤ l.length) && decide (l.length ≤ 10)

def okEdit (e : Edit) : Bool :=
  inB e.id 1 99 && ((decide (e.kind = 1) && decide (e.old.toList = []) && okSent e.new.toList) || (decide (e.kind = 2) && okSent e.old.toList && decide (e.new.toList = [])) ||
    (decide (e.kind = 3) && okSent e.old.toList && okSent e.new.toList && !(e.old.toList == e.new.toList)))

def idAt (p : List Edit) (k : Nat) : Int := ((p[k]?).map (·.id)).getD 0
def okPatch (p : List Edit) : Bool :=
  allLt p.length (fun k => ((p[k]?).map okEdit).getD true && (decide (k = 0) || decide (idAt p (k - 1) < idAt p k))) && decide (p.length ≤ 16)

def editText (e : Edit) : List UInt8 :=
  if e.kind = 1 then 43 :: (itoa e.id ++ 32 :: (e.new.toList ++ [10])) else if e.kind = 2 then 45 :: (itoa e.id ++ 32 :: (e.old.toList ++ [10])) else 126 :: (itoa e.id ++ 32 :: (e.old.toList ++ 124 :: (e.new.toList ++ [10])))
def patchText (p : List Edit) : List UInt8 := p.flatMap editText

def okTrust (l : List Int) (member n : Int) : Bool :=
  allLt l.length (fun k => inB (l.getD k 0) 0 (n - 1) && decide (l.getD k 0 ≠ member) && !((l.take k).contains (l.getD k 0))) && decide (l.length ≤ 4)

def okSpan (p : List Edit) (closes start until_ : Int) : Bool :=
  !p.isEmpty && okPatch p && inB closes 1 999 && decide (closes ≤ start) && decide (start < until_) && decide (until_ ≤ 1000)

def okDeed (d : Deed) : Bool :=
  let plain := d.patch.isEmpty && decide (d.start = 0) && decide (d.until_ = 0) && decide (d.closes = 0)
  (decide (d.kind = 1) && inB d.member 0 11 && okTrust d.trust d.member 12 && decide (d.title.toList = []) && decide (d.vote = 0) && plain) ||
  (decide (d.kind = 2) && inB d.member 0 11 && okName d.title.toList && inB d.vote 0 3 && d.trust.isEmpty && plain) ||
  (decide (d.kind = 3) && inB d.member 0 11 && okName d.title.toList && okSpan d.patch d.closes d.start d.until_ && d.trust.isEmpty && decide (d.vote = 0)) ||
  (decide (d.kind = 4) && decide (d.member = 0) && d.trust.isEmpty && decide (d.title.toList = []) && decide (d.vote = 0) && plain)

end Go.Proofs.Ytlbnebmdolnagaa

namespace Go.Proofs.Ytlbnebmdolnagaa
open Go.RowKit

theorem byteAt_of (s : ByteArray) (k : Nat) (h : k < s.size) : byteAt s.data.toList k = s[k].toNat := by
  unfold byteAt
  rw [List.getD_eq_getElem?_getD, List.getElem?_eq_getElem (by simpa using h)]
  rfl

theorem sentCh_iff (c : Nat) : sentCh c = true ↔ (97 ≤ c ∧ c ≤ 122) ∨ (48 ≤ c ∧ c ≤ 57) ∨ c = 32 := by
  unfold sentCh
  simp [or_assoc]
theorem sentCh_false {c : Nat} (h : ¬ ((97 ≤ c ∧ c ≤ 122) ∨ (48 ≤ c ∧ c ≤ 57) ∨ c = 32)) : sentCh c = false := by
  rw [Bool.eq_false_iff]
  exact fun e => h ((sentCh_iff c).1 e)
theorem okSent_bad (l : List UInt8) (k : Nat) (hk : k < l.length) (h : sentCh (byteAt l k) = false) : okSent l = false := by
  unfold okSent
  rw [allLt_false hk h]
  rfl

end Go.Proofs.Ytlbnebmdolnagaa

namespace Go.Proofs.Ytlbnebmdolnagaa
open Go.RowKit

theorem okEdit_add {e : Edit} (h : inB e.id 1 99 = true) (hk : e.kind = 1) : okEdit e = (decide (e.old.toList = []) && okSent e.new.toList) := by
  unfold okEdit
  rw [h]
  simp [hk]
theorem okEdit_drop {e : Edit} (h : inB e.id 1 99 = true) (hk : e.kind = 2) : okEdit e = (okSent e.old.toList && decide (e.new.toList = [])) := by
  unfold okEdit
  rw [h]
  simp [hk]
theorem okEdit_change {e : Edit} (h : inB e.id 1 99 = true) (hk : e.kind = 3) : okEdit e = (okSent e.old.toList && okSent e.new.toList && !(e.old.toList == e.new.toList)) := by
  unfold okEdit
  rw [h]
  simp [hk]
theorem okEdit_other {e : Edit} (h1 : e.kind ≠ 1) (h2 : e.kind ≠ 2) (h3 : e.kind ≠ 3) : okEdit e = false := by
  unfold okEdit
  simp [h1, h2, h3]
theorem okEdit_id {e : Edit} (h : inB e.id 1 99 = false) : okEdit e = false := by
  unfold okEdit
  rw [h]
  rfl

def SizeOk (e : Edit) : Prop := e.old.size ≤ maxLen ∧ e.new.size ≤ maxLen

end Go.Proofs.Ytlbnebmdolnagaa

namespace Go.Proofs.Ytlbnebmdolnagaa
open Go.RowKit

def Edits (w : World) (B : Nat) (v : Value) (es : List Edit) : Prop := SlR (Pl editCells) 4 w B v es
def SizesOk (es : List Edit) : Prop := ∀ e, e ∈ es → SizeOk e

theorem edits_at {w : World} {B b off : Nat} {es : List Edit} (h : ∀ (k : Nat) (x : Edit), es[k]? = some x → ∃ us, us.length = 4 ∧ Pl editCells w B us x ∧ ∀ (j : Nat) (u : Value), us[j]? = some u → w.cell? ⟨b, off + k * 4 + j, none⟩ = some u) {k : Nat} {e : Edit} (hk : es[k]? = some e) :
    w.cell? ⟨b, off + k * 4, none⟩ = some (.int .i64 e.kind) ∧ w.cell? ⟨b, off + k * 4 + 1, none⟩ = some (.int .i64 e.id) ∧ w.cell? ⟨b, off + k * 4 + 2, none⟩ = some (.string e.old) ∧ w.cell? ⟨b, off + k * 4 + 3, none⟩ = some (.string e.new) := by
  obtain ⟨us, hl, hp, hc⟩ := h k e hk
  have hp : us = editCells e := hp
  subst hp
  exact ⟨hc 0 _ rfl, hc 1 _ rfl, hc 2 _ rfl, hc 3 _ rfl⟩

def patchAt (p : List Edit) (k : Nat) : Bool := ((p[k]?).map okEdit).getD true && (decide (k = 0) || decide (idAt p (k - 1) < idAt p k))
theorem okPatch_eq (p : List Edit) : okPatch p = (allLt p.length (patchAt p) && decide (p.length ≤ 16)) := rfl

theorem patchAt_bad {p : List Edit} {k : Nat} {e : Edit} (h : p[k]? = some e) (ho : okEdit e = false) : patchAt p k = false := by
  unfold patchAt
  rw [h]
  simp [ho]
theorem patchAt_zero {p : List Edit} {k : Nat} {e : Edit} (hk : k = 0) (h : p[k]? = some e) (ho : okEdit e = true) : patchAt p k = true := by
  subst hk
  unfold patchAt
  rw [h]
  simp [ho]
theorem patchAt_succ {p : List Edit} {m : Nat} {d e : Edit} (hd : p[m]? = some d) (h : p[m + 1]? = some e) (ho : okEdit e = true) : patchAt p (m + 1) = decide (d.id < e.id) := by
  unfold patchAt idAt
  rw [h]
  simp [ho, hd]
theorem okPatch_bad {p : List Edit} {k : Nat} (hk : k < p.length) (h : patchAt p k = false) : okPatch p = false := by
  rw [okPatch_eq, allLt_false hk h]
  rfl

end Go.Proofs.Ytlbnebmdolnagaa

namespace Go.Proofs.Ytlbnebmdolnagaa
open Go.RowKit

def nameCh (c : Nat) : Bool := decide (97 ≤ c) && decide (c ≤ 122)
theorem okName_bad (l : List UInt8) (k : Nat) (hk : k < l.length) (h : nameCh (byteAt l k) = false) : okName l = false := by
  unfold okName
  have h' : (decide (97 ≤ byteAt l k) && decide (byteAt l k ≤ 122)) = false := h
  rw [allLt_false (f := fun k => decide (97 ≤ byteAt l k) && decide (byteAt l k ≤ 122)) hk h']
  rfl

end Go.Proofs.Ytlbnebmdolnagaa

namespace Go.Proofs.Ytlbnebmdolnagaa
open Go.RowKit

def intCells (z : Int) : List Value := [.int .i64 z]
def Ints (w : World) (B : Nat) (v : Value) (zs : List Int) : Prop := SlR (Pl intCells) 1 w B v zs

theorem ints_at {w : World} {B b off : Nat} {zs : List Int} (h : ∀ (k : Nat) (x : Int), zs[k]? = some x → ∃ us, us.length = 1 ∧ Pl intCells w B us x ∧ ∀ (j : Nat) (u : Value), us[j]? = some u → w.cell? ⟨b, off + k * 1 + j, none⟩ = some u) {k : Nat} {z : Int} (hk : zs[k]? = some z) :
    w.cell? ⟨b, off + k, none⟩ = some (.int .i64 z) := by
  obtain ⟨us, hl, hp, hc⟩ := h k z hk
  have hp : us = intCells z := hp
  subst hp
  have := hc 0 _ rfl
  simpa using this

theorem SlR.take {α : Type} {R : World → Nat → List Value → α → Prop} {size : Nat} {w : World} {B : Nat} {A : Option Addr} {n c : Nat} {xs : List α} (h : SlR R size w B (.slice A n c) xs) (k : Nat) (hk : k ≤ xs.length) : SlR R size w B (.slice A k c) (xs.take k) := by
  obtain ⟨A', c', hv, h1, h2, h3⟩ := h
  injection hv with e1 e2 e3
  subst e1 e3
  have hl : (xs.take k).length = k := by rw [List.length_take]; omega
  refine ⟨A, c, by rw [hl], by omega, h2, fun h0 => ?_⟩
  obtain ⟨b, off, hA, hb, hc⟩ := h3 (by omega)
  refine ⟨b, off, hA, hb, fun j x hx => hc j x ?_⟩
  rw [List.getElem?_take] at hx
  split at hx
  · exact hx
  · cases hx

def IndexPost (w : World) (zs : List Int) (x : Int) (e : Ending) (w' : World) : Prop :=
  ∃ n : Int, e = .returned (.int .i64 n) ∧ w' = w ∧ (0 ≤ n ↔ x ∈ zs) ∧ -1 ≤ n ∧ n ≤ 9223372036854775807 ∧ (0 ≤ n → zs[n.toNat]? = some x ∧ x ∉ zs.take n.toNat)

set_option maxHeartbeats 1000000 in
theorem index_any (zs : List Int) (x : Int) (w : World) (v : Value) (h : Ints w w.heap.size v zs) :
    Calls Try.prog 80 #[v, .int .i64 x] w (IndexPost w zs x) := by
  obtain ⟨A, c, rfl, hc, hm, hel⟩ := h
  unfold maxLen at hm
  have hlm : zs.length ≤ 9223372036854775807 := by omega
  have HEL := Lib.hid hel
  clear hel
  go_enter Try.func80, Try.ntmps80
  go_wp2
  go_loop [5, 8] (fun _ i => ∃ k : Nat, k ≤ zs.length ∧ i = .int .i64 (k : Int) ∧ x ∉ zs.take k) (fun _ i => zs.length - (intOf i).toNat)
  case atStart => exact ⟨0, Nat.zero_le _, rfl, by simp⟩
  case round =>
    obtain ⟨k, hk, rfl, hno⟩ := hrel
    have HN := Lib.hid hno
    clear hno
    by_cases hlt : k < zs.length
    · obtain ⟨b, off, rfl, hblt, hcell⟩ := HEL.out (by omega)
      have hget : zs[k]? = some zs[k] := List.getElem?_eq_getElem hlt
      have x0 := ints_at hcell hget
      have hts : zs.take (k + 1) = zs.take k ++ [zs[k]] := by rw [List.take_succ_eq_append_getElem hlt]
      have HG := Lib.hid hget
      have HT := Lib.hid hts
      clear hget hcell hts
      generalize zs[k] = z at *
      by_cases hz : x = z
      · have hz1 : (x == z) = true := by simp [hz]
        have HZ := Lib.hid hz
        clear hz
        go_wp2
        go_ret
        refine ⟨k, rfl, rfl, ⟨fun _ => ?_, fun _ => by omega⟩, by omega, by omega, fun _ => ?_⟩
        · rw [HZ.out]; exact List.mem_of_getElem? HG.out
        · rw [show ((k : Int)).toNat = k by omega]
          exact ⟨by rw [HZ.out]; exact HG.out, HN.out⟩
      · have hz1 : (x == z) = false := by simp [hz]
        have HZ := Lib.hid hz
        clear hz
        go_wp2
        go_round
        case rel => exact ⟨k + 1, by omega, by go_num, by rw [HT.out, List.mem_append, List.mem_singleton]; rintro (h | h); exact HN.out h; exact HZ.out h⟩
        case measure => simp [intOf]; omega
    · have hk' : k = zs.length := by omega
      have hge : ¬ (k : Int) < (zs.length : Int) := by omega
      have HK := Lib.hid hk'
      clear hk' hlt
      go_wp2
      go_ret
      refine ⟨-1, rfl, rfl, ⟨fun h => by omega, fun h => ?_⟩, by omega, by omega, fun h => by omega⟩
      have := HN.out
      rw [HK.out, List.take_length] at this
      exact absurd h this

set_option maxHeartbeats 1000000 in
theorem contains_any (zs : List Int) (x : Int) (w : World) (v : Value) (h : Ints w w.heap.size v zs) :
    Calls Try.prog 65 #[v, .int .i64 x] w (RetQ (.bool (zs.contains x)) w) := by
  have H := Lib.hid (index_any zs x w v h)
  clear h
  go_enter Try.func65, Try.ntmps65
  go_wp2_with (fail)
  refine H.out.mono ?_
  rintro e w1 ⟨n, rfl, rfl, hiff, h1, h2, _⟩
  by_cases hn : 0 ≤ n
  · have hd : decide (0 ≤ n) = true := by simp; omega
    have hc : zs.contains x = true := by rw [List.contains_iff_mem]; exact hiff.1 hn
    have HC := Lib.hid hc
    clear hiff hn hc
    go_wp2
    go_ret
    exact ⟨by rw [HC.out]; rfl, 0, rfl⟩
  · have hd : decide (0 ≤ n) = false := by simp; omega
    have hc : zs.contains x = false := by rw [Bool.eq_false_iff, ne_eq, List.contains_iff_mem]; exact fun h => hn (hiff.2 h)
    have HC := Lib.hid hc
    clear hiff hn hc
    go_wp2
    go_ret
    exact ⟨by rw [HC.out]; rfl, 0, rfl⟩

def trustAt (l : List Int) (member n : Int) (k : Nat) : Bool := inB (l.getD k 0) 0 (n - 1) && decide (l.getD k 0 ≠ member) && !((l.take k).contains (l.getD k 0))
theorem okTrust_eq (l : List Int) (member n : Int) : okTrust l member n = (allLt l.length (trustAt l member n) && decide (l.length ≤ 4)) := rfl
theorem okTrust_bad {l : List Int} {member n : Int} {k : Nat} (hk : k < l.length) (h : trustAt l member n k = false) : okTrust l member n = false := by
  rw [okTrust_eq, allLt_false hk h]
  rfl
theorem trustAt_eq {l : List Int} {member n : Int} {k : Nat} {z : Int} (hz : l[k]? = some z) : trustAt l member n k = (inB z 0 (n - 1) && decide (z ≠ member) && !((l.take k).contains z)) := by
  have e : l.getD k 0 = z := by rw [List.getD_eq_getElem?_getD, hz]; rfl
  unfold trustAt
  rw [e]

end Go.Proofs.Ytlbnebmdolnagaa

namespace Go.Proofs.Ytlbnebmdolnagaa
open Go.RowKit

def plainB (d : Deed) : Bool := d.patch.isEmpty && decide (d.start = 0) && decide (d.until_ = 0) && decide (d.closes = 0)
theorem okDeed_1 {d : Deed} (hk : d.kind = 1) : okDeed d = (inB d.member 0 11 && okTrust d.trust d.member 12 && decide (d.title.toList = []) && decide (d.vote = 0) && plainB d) := by
  unfold okDeed plainB
  simp [hk]
theorem okDeed_2 {d : Deed} (hk : d.kind = 2) : okDeed d = (inB d.member 0 11 && okName d.title.toList && inB d.vote 0 3 && d.trust.isEmpty && plainB d) := by
  unfold okDeed plainB
  simp [hk]
theorem okDeed_3 {d : Deed} (hk : d.kind = 3) : okDeed d = (inB d.member 0 11 && okName d.title.toList && okSpan d.patch d.closes d.start d.until_ && d.trust.isEmpty && decide (d.vote = 0)) := by
  unfold okDeed
  simp [hk]
theorem okDeed_4 {d : Deed} (hk : d.kind = 4) : okDeed d = (decide (d.member = 0) && d.trust.isEmpty && decide (d.title.toList = []) && decide (d.vote = 0) && plainB d) := by
  unfold okDeed plainB
  simp [hk]
theorem okDeed_0 {d : Deed} (h1 : d.kind ≠ 1) (h2 : d.kind ≠ 2) (h3 : d.kind ≠ 3) (h4 : d.kind ≠ 4) : okDeed d = false := by
  unfold okDeed
  simp [h1, h2, h3, h4]

theorem len_zero {α : Type} (l : List α) : ((l.length : Int) == 0) = l.isEmpty := by
  cases l with
  | nil => rfl
  | cons a l => simp; omega
theorem int_zero (n : Int) : (n == 0) = decide (n = 0) := by
  by_cases h : n = 0 <;> simp [h]

end Go.Proofs.Ytlbnebmdolnagaa

namespace Go.Proofs.Ytlbnebmdolnagaa
open Go.RowKit Go.Lib

/-- A text in which each new line is a semicolon. -/
def semis (l : List UInt8) : List UInt8 := l.map fun c => if c = 10 then 59 else c

theorem mk_toList (b : ByteArray) : (⟨b.toList.toArray⟩ : ByteArray) = b := by
  apply ByteArray.ext
  rw [ByteArray.toList_eq]
theorem cat_ll {P : Program} (l r : List UInt8) (hl : l.length ≤ 8388608) (hr : r.length ≤ 8388608) (w : World) : (Op.stringOp .add ⟨l.toArray⟩ ⟨r.toArray⟩).run P w = .ok (.string ⟨(l ++ r).toArray⟩) w :=
  run_string_add_lists w l r (by omega) (by omega)
theorem cat_lb {P : Program} (l : List UInt8) (b : ByteArray) (hl : l.length ≤ 8388608) (hr : b.toList.length ≤ 8388608) (w : World) : (Op.stringOp .add ⟨l.toArray⟩ b).run P w = .ok (.string ⟨(l ++ b.toList).toArray⟩) w := by
  have := run_string_add_lists (P := P) w l b.toList (by omega) (by omega)
  rwa [mk_toList] at this
theorem cat_llt {P : Program} (l r t : List UInt8) (h : l ++ r = t) (hl : l.length ≤ 8388608) (hr : r.length ≤ 8388608) (w : World) : (Op.stringOp .add ⟨l.toArray⟩ ⟨r.toArray⟩).run P w = .ok (.string ⟨t.toArray⟩) w :=
  h ▸ cat_ll l r hl hr w
theorem cat_lbt {P : Program} (l : List UInt8) (b : ByteArray) (t : List UInt8) (h : l ++ b.toList = t) (hl : l.length ≤ 8388608) (hr : b.toList.length ≤ 8388608) (w : World) : (Op.stringOp .add ⟨l.toArray⟩ b).run P w = .ok (.string ⟨t.toArray⟩) w :=
  h ▸ cat_lb l b hl hr w

end Go.Proofs.Ytlbnebmdolnagaa

namespace Go.Proofs.Ytlbnebmdolnagaa
open Go.RowKit Go.Lib

theorem okPatch_at {p : List Edit} (h : okPatch p = true) {k : Nat} {e : Edit} (hk : p[k]? = some e) : okEdit e = true := by
  rw [okPatch_eq, Bool.and_eq_true, allLt_true] at h
  have hlt : k < p.length := (List.getElem?_eq_some_iff.1 hk).1
  have := h.1 k hlt
  unfold patchAt at this
  rw [hk, Bool.and_eq_true] at this
  exact this.1
theorem okPatch_len {p : List Edit} (h : okPatch p = true) : p.length ≤ 16 := by
  rw [okPatch_eq, Bool.and_eq_true] at h
  exact of_decide_eq_true h.2
theorem okSent_len {l : List UInt8} (h : okSent l = true) : l.length ≤ 24 := by
  unfold okSent at h
  simp only [Bool.and_eq_true] at h
  exact of_decide_eq_true h.1.1.2
theorem okEdit_facts {e : Edit} (h : okEdit e = true) : 1 ≤ e.id ∧ e.id ≤ 99 ∧ e.old.toList.length ≤ 24 ∧ e.new.toList.length ≤ 24 := by
  unfold okEdit at h
  rw [Bool.and_eq_true] at h
  obtain ⟨h1, h2⟩ := h
  rw [inB_iff] at h1
  refine ⟨h1.1, h1.2, ?_⟩
  simp only [Bool.or_eq_true, Bool.and_eq_true, decide_eq_true_eq] at h2
  rcases h2 with (⟨⟨_, h⟩, hn⟩ | ⟨⟨_, ho⟩, h⟩) | ⟨⟨⟨_, ho⟩, hn⟩, _⟩
  · exact ⟨by rw [h]; simp, okSent_len hn⟩
  · exact ⟨okSent_len ho, by rw [h]; simp⟩
  · exact ⟨okSent_len ho, okSent_len hn⟩
theorem editText_len {e : Edit} (h : okEdit e = true) : (editText e).length ≤ 80 := by
  obtain ⟨h1, h2, h3, h4⟩ := okEdit_facts h
  have := itoa_length_le e.id (by omega) (by omega)
  unfold editText
  split
  · simp; omega
  · split
    · simp; omega
    · simp; omega
theorem patchText_take {p : List Edit} (h : okPatch p = true) (k : Nat) : (patchText (p.take k)).length ≤ 80 * k := by
  induction k with
  | zero => simp [patchText]
  | succ k ih =>
    by_cases hlt : k < p.length
    · rw [List.take_succ_eq_append_getElem hlt]
      unfold patchText at *
      rw [List.flatMap_append, List.length_append]
      have := editText_len (okPatch_at h (List.getElem?_eq_getElem hlt))
      simp only [List.flatMap_cons, List.flatMap_nil, List.append_nil]
      omega
    · have e1 : p.take k = p := List.take_of_length_le (by omega)
      have e2 : p.take (k + 1) = p := List.take_of_length_le (by omega)
      rw [e2]
      rw [e1] at ih
      omega
theorem patchText_succ {p : List Edit} {k : Nat} {e : Edit} (hk : p[k]? = some e) : patchText (p.take (k + 1)) = patchText (p.take k) ++ editText e := by
  have hlt : k < p.length := (List.getElem?_eq_some_iff.1 hk).1
  rw [List.take_succ_eq_append_getElem hlt]
  have : p[k] = e := by rw [List.getElem?_eq_getElem hlt] at hk; exact Option.some.inj hk
  unfold patchText
  rw [List.flatMap_append, this]
  simp

/-- What PatchText gives. -/
def patchOut (es : List Edit) : List UInt8 := if okPatch es = true then patchText es else []
theorem patchOut_no {es : List Edit} (h : okPatch es = false) : patchOut es = [] := by unfold patchOut; rw [if_neg (by rw [h]; simp)]
theorem patchOut_ok {es : List Edit} (h : okPatch es = true) : patchOut es = patchText es := by unfold patchOut; rw [if_pos h]

end Go.Proofs.Ytlbnebmdolnagaa

namespace Go.Proofs.Ytlbnebmdolnagaa
open Go.RowKit Go.Lib

def strCell (l : List UInt8) : List Value := [.string ⟨l.toArray⟩]
/-- Numbers with a text between two of them. -/
def nums (zs : List Int) (sep : List UInt8) : List UInt8 := Lib.join (zs.map itoa) sep
theorem lens_nums (zs : List Int) (hz : ∀ z ∈ zs, -9223372036854775808 ≤ z ∧ z ≤ 9223372036854775807) : Lib.lens (zs.map itoa) ≤ 21 * zs.length := by
  induction zs with
  | nil => simp [Lib.lens]
  | cons z r ih =>
    have := itoa_length_le z (hz z (by simp)).1 (hz z (by simp)).2
    have := ih fun x hx => hz x (by simp [hx])
    simp [Lib.lens] at *
    omega
theorem nums_len (zs : List Int) (sep : List UInt8) (hs : sep.length ≤ 16) (hz : ∀ z ∈ zs, -9223372036854775808 ≤ z ∧ z ≤ 9223372036854775807) : (nums zs sep).length ≤ 37 * zs.length := by
  cases zs with
  | nil => simp [nums, Lib.join_nil]
  | cons z r =>
    unfold nums
    have h1 := itoa_length_le z (hz z (by simp)).1 (hz z (by simp)).2
    have h2 := lens_nums r fun x hx => hz x (by simp [hx])
    rw [List.map_cons, Lib.join_cons, List.length_append, Lib.joinTail_length, List.length_map, List.length_cons]
    have : sep.length * r.length ≤ 16 * r.length := Nat.mul_le_mul_right _ hs
    omega

theorem Try.infoS : (Try.prog.info? 9).map (fun i => (i.zero, i.size, i.bytes)) = some (some (.string ⟨#[]⟩), 1, 16) := by kernel_rfl

theorem own_below {w w' : World} {base : Nat} {e : TypeId} {size : Nat} {v : Value} {n : Nat} {xs : List Value} (h : w.ownsRow base e size v n xs) (hb : Below w.heap.size w w') : w'.ownsRow base e size v n xs := by
  obtain ⟨hl, h | ⟨g, cap, cur, rfl, hg, hh, hr⟩⟩ := h
  · exact ⟨hl, .inl h⟩
  · refine ⟨hl, .inr ⟨g, cap, cur, rfl, hg, ?_, hr⟩⟩
    have hlt : g < w.heap.size := by
      rcases Nat.lt_or_ge g w.heap.size with hlt | hge
      · exact hlt
      · rw [Array.getElem?_eq_none hge] at hh; cases hh
    rw [hb.block g hlt]
    exact hh
theorem take_cells {zs : List Int} {k : Nat} {z : Int} (h : zs[k]? = some z) : ((zs.take (k + 1)).map itoa).flatMap strCell = ((zs.take k).map itoa).flatMap strCell ++ [.string ⟨(itoa z).toArray⟩] := by
  obtain ⟨hlt, rfl⟩ := List.getElem?_eq_some_iff.1 h
  rw [List.take_succ_eq_append_getElem hlt, List.map_append, List.flatMap_append]
  rfl

end Go.Proofs.Ytlbnebmdolnagaa
