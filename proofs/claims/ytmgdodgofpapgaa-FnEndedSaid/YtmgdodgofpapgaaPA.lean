/- What all walks share: the posts of contracts, and small laws on worlds. Is a number in a range: the reference. Is a number in a range: the program. Decimal numerals: what is written is read back. No program here. Slices in memory, read as lists. The texts of sentences, patches and deeds, as plain functions. No program here. Sentences, edits and patches: the program's tests, walked. Edits and patches: the program's tests, walked. Patches: the program's test, walked. -/
import Derived.Test.YtmgdodgofpapgaaProg
import Derived.WalkKit
import Derived.WalkSpells
import Derived.WalkLawsBesides
import Derived.Deep.QuietTactic
import Derived.BigQuiet
import Derived.Lib.Hide
import Derived.Deep.DeepCutAuto
import Derived.Deep.RegionHeld3
import Derived.Lib.ItoaLen
import Derived.Lib.ParseIntB
import Derived.Lib.IndexMore
import Derived.Lib.ItoaNum
import Derived.RegionCalls
namespace Go.Proofs.Ytmgdodgofpapgaa
open Go.RowKit

/-- Only block b and what is new has turned. -/
def Only (b : Nat) (w w' : World) : Prop := w.grownBy w' (some b)

theorem only_drewN {w w' : World} {b : Nat} (h : Only b w w') (n : Nat) : Only b w (w'.drewN n) := ⟨h.os, h.tape, h.output, h.size, h.block⟩
theorem only_refl (b : Nat) (w : World) : Only b w w := ⟨rfl, rfl, rfl, Nat.le_refl _, fun _ _ _ => rfl⟩
theorem only_trans {a b c : World} {g : Nat} (h : Only g a b) (k : Only g b c) : Only g a c :=
  ⟨k.os.trans h.os, k.tape.trans h.tape, k.output.trans h.output, Nat.le_trans h.size k.size, fun i hi hn => (k.block i (Nat.lt_of_lt_of_le hi h.size) hn).trans (h.block i hi hn)⟩
theorem only_setCell {a w : World} {g : Nat} (h : Only g a w) {p : Addr} (hp : p.block = g ∨ a.heap.size ≤ p.block) (u : Value) : Only g a (w.setCell p u) :=
  ⟨h.os, h.tape, h.output, by simpa [World.setCell] using h.size, fun i hi hne => (Below.heap_setCell w p u i (by
    rintro rfl
    rcases hp with hp | hp
    · exact hne (by rw [hp])
    · omega)).trans (h.block i hi hne)⟩
theorem only_below {a w : World} {g B : Nat} (h : Only g a w) (hB : B ≤ g) (hs : B ≤ a.heap.size) : Below B a w :=
  ⟨h.os, h.tape, h.output, h.size, fun i hi => h.block i (by omega) (fun e => by injection e; omega)⟩

theorem only_cells {b : Nat} {w w1 : World} (h : Only b w w1) (c o : Nat) (hc : c < w.heap.size) (hne : c ≠ b) : w1.cell? ⟨c, o, none⟩ = w.cell? ⟨c, o, none⟩ ∧ w1.frozen? ⟨c, o, none⟩ = w.frozen? ⟨c, o, none⟩ := by
  have e : w1.heap[c]? = w.heap[c]? := h.block c hc (fun e => hne (by injection e))
  exact ⟨World.cell?_of_block e, World.frozen?_of_block e⟩

theorem ret_i64 {a b : Int} (h : a = b) : Ending.returned (.int .i64 a) = .returned (.int .i64 b) := by rw [h]

def RetInt (n : Int) (w : World) (e : Ending) (w' : World) : Prop := e = .returned (.int .i64 n) ∧ w = w'

theorem below_drewN {B : Nat} {a w : World} (h : Below B a w) (n : Nat) : Below B a (w.drewN n) := ⟨h.os, h.tape, h.output, h.size, h.block⟩
theorem bcell {W w1 : World} (hb : Below W.heap.size W w1) : (∀ b o, b < W.heap.size → w1.cell? ⟨b, o, none⟩ = W.cell? ⟨b, o, none⟩) ∧ (∀ b o, b < W.heap.size → w1.frozen? ⟨b, o, none⟩ = W.frozen? ⟨b, o, none⟩) :=
  ⟨fun b o h => hb.cell (p := ⟨b, o, none⟩) h, fun b o h => hb.frozen (p := ⟨b, o, none⟩) h⟩
def RetQ (v : Value) (w : World) (e : Ending) (w' : World) : Prop := e = .returned v ∧ ∃ k, w' = w.drewN k
def RetB (v : Value) (w : World) (e : Ending) (w' : World) : Prop := e = .returned v ∧ Below w.heap.size w w'

theorem quiet_q {P : Program} {f : FuncId} {args : Array Value} {w : World} {n : Nat} {v : Value} (h : Calls P f args (w.drewN n) (RetQ v (w.drewN n))) :
    Calls P f args (w.drewN n) fun e w'' => e = .returned v ∧ ∃ m, w'' = w.drewN m :=
  h.mono fun _ _ ⟨he, m, hm⟩ => ⟨he, n + m, by rw [hm, World.drewN_drewN]⟩
theorem retQ_of {P : Program} {f : FuncId} {args : Array Value} {w : World} {n : Int} (h : Calls P f args w (RetInt n w)) : Calls P f args w (RetQ (.int .i64 n) w) :=
  h.mono fun _ _ ⟨he, hw⟩ => ⟨he, 0, hw ▸ rfl⟩

/-- A world in which all that was in W is as it was. -/
structure Aft (W : World) where
  val : World
  ok : Below W.heap.size W val

instance aft_ne (W : World) : Nonempty (Aft W) := ⟨⟨W, Below.refl _ _⟩⟩

theorem Aft.cell {W : World} (x : Aft W) {b o : Nat} {v : Value} (h : W.cell? ⟨b, o, none⟩ = some v) : x.val.cell? ⟨b, o, none⟩ = some v := by
  have hb : b < W.heap.size := World.block_lt_of_cell? W ⟨b, o, none⟩ h
  exact (x.ok.cell (p := ⟨b, o, none⟩) hb).trans h
theorem Aft.frozen {W : World} (x : Aft W) {b o : Nat} (hb : b < W.heap.size) : x.val.frozen? ⟨b, o, none⟩ = W.frozen? ⟨b, o, none⟩ := x.ok.frozen (p := ⟨b, o, none⟩) hb

/-- A region that draws its order, whose operations read and whose calls leave what was as it was: one walk in the text's order. -/
theorem wp_region_aft {P : Program} {id : Nat} {Q : Exit → Act → World → Prop} {a : Act} {W : World} {l : List Oper} (hm : P.follows .mixedOrders = true) (hB : Region.lexB .any l.toArray = true)
    (h : wpQuiet P l.toArray (fun w' => ∃ x : Aft W, w' = x.val) (fun a' => ∀ w', (∃ x : Aft W, w' = x.val) → Q .normal a' w') l a) : (Code.region id l.toArray true).wp P Q a W :=
  wp_region_quiet (C := fun w' => ∃ x : Aft W, w' = x.val) hm hB ⟨⟨W.drew, (Below.refl _ _).drew⟩, rfl⟩ (by simpa using h)

theorem aft_b {P : Program} {f : FuncId} {args : Array Value} {W : World} {x : Aft W} {v : Value} (h : Calls P f args x.val (RetB v x.val)) :
    Calls P f args x.val fun e w'' => e = .returned v ∧ ∃ y : Aft W, w'' = y.val :=
  h.mono fun _ w'' ⟨he, hb⟩ => ⟨he, ⟨w'', x.ok.trans (hb.mono x.ok.size)⟩, rfl⟩
theorem aft_q {P : Program} {f : FuncId} {args : Array Value} {W : World} {x : Aft W} {v : Value} (h : Calls P f args x.val (RetQ v x.val)) :
    Calls P f args x.val fun e w'' => e = .returned v ∧ ∃ y : Aft W, w'' = y.val :=
  h.mono fun _ w'' ⟨he, k, hk⟩ => ⟨he, ⟨w'', by rw [hk]; exact below_drewN x.ok k⟩, rfl⟩

def inB (n a b : Int) : Bool := decide (a ≤ n) && decide (n ≤ b)
theorem inB_true {n a b : Int} (h1 : a ≤ n) (h2 : n ≤ b) : inB n a b = true := by unfold inB; simp [h1, h2]
theorem inB_false {n a b : Int} (h : n < a ∨ b < n) : inB n a b = false := by
  unfold inB
  rcases h with h | h
  · have : ¬ a ≤ n := by omega
    simp [this]
  · have : ¬ n ≤ b := by omega
    simp [this]
theorem inB_iff {n a b : Int} : inB n a b = true ↔ a ≤ n ∧ n ≤ b := by unfold inB; simp

end Go.Proofs.Ytmgdodgofpapgaa

namespace Go.Proofs.Ytmgdodgofpapgaa
open Go.RowKit

set_option maxHeartbeats 400000 in
theorem in1_yes (n a b : Int) (w : World) (h1 : a ≤ n) (h2 : n ≤ b) :
    Calls Try.prog 49 #[.int .i64 n, .int .i64 a, .int .i64 b] w (RetQ (.bool true) w) := by
  go_enter Try.func49, Try.ntmps49
  go_wp2
  go_ret
  exact ⟨rfl, 0, rfl⟩
set_option maxHeartbeats 400000 in
theorem in1_no (n a b : Int) (w : World) (h : n < a ∨ b < n) :
    Calls Try.prog 49 #[.int .i64 n, .int .i64 a, .int .i64 b] w (RetQ (.bool false) w) := by
  by_cases h1 : a ≤ n
  · have h2 : decide (n ≤ b) = false := by simp; omega
    clear h
    go_enter Try.func49, Try.ntmps49
    go_wp2
    go_ret
    exact ⟨rfl, 0, rfl⟩
  · have h2 : n < a := by omega
    clear h
    go_enter Try.func49, Try.ntmps49
    go_wp2
    go_ret
    exact ⟨rfl, 0, rfl⟩

theorem in1_any (n a b : Int) (w : World) :
    Calls Try.prog 49 #[.int .i64 n, .int .i64 a, .int .i64 b] w (RetQ (.bool (inB n a b)) w) := by
  by_cases h : a ≤ n ∧ n ≤ b
  · rw [inB_true h.1 h.2]
    exact in1_yes n a b w h.1 h.2
  · have h' : n < a ∨ b < n := by omega
    rw [inB_false h']
    exact in1_no n a b w h'

end Go.Proofs.Ytmgdodgofpapgaa

namespace Go.Proofs.Ytmgdodgofpapgaa
open Go.RowKit

set_option maxHeartbeats 400000 in
theorem in2_yes (n a b : Int) (w : World) (h1 : a ≤ n) (h2 : n ≤ b) :
    Calls Try.prog 46 #[.int .i64 n, .int .i64 a, .int .i64 b] w (RetQ (.bool true) w) := by
  go_enter Try.func46, Try.ntmps46
  go_wp2
  go_ret
  exact ⟨rfl, 0, rfl⟩
set_option maxHeartbeats 400000 in
theorem in2_no (n a b : Int) (w : World) (h : n < a ∨ b < n) :
    Calls Try.prog 46 #[.int .i64 n, .int .i64 a, .int .i64 b] w (RetQ (.bool false) w) := by
  by_cases h1 : a ≤ n
  · have h2 : decide (n ≤ b) = false := by simp; omega
    clear h
    go_enter Try.func46, Try.ntmps46
    go_wp2
    go_ret
    exact ⟨rfl, 0, rfl⟩
  · have h2 : n < a := by omega
    clear h
    go_enter Try.func46, Try.ntmps46
    go_wp2
    go_ret
    exact ⟨rfl, 0, rfl⟩


theorem in2_any (n a b : Int) (w : World) :
    Calls Try.prog 46 #[.int .i64 n, .int .i64 a, .int .i64 b] w (RetQ (.bool (inB n a b)) w) := by
  by_cases h : a ≤ n ∧ n ≤ b
  · rw [inB_true h.1 h.2]
    exact in2_yes n a b w h.1 h.2
  · have h' : n < a ∨ b < n := by omega
    rw [inB_false h']
    exact in2_no n a b w h'

end Go.Proofs.Ytmgdodgofpapgaa

namespace Go.Proofs.Ytmgdodgofpapgaa
open Go.Lib

def isDigit (c : UInt8) : Prop := 48 ≤ c.toNat ∧ c.toNat ≤ 57

theorem digit_of (d : Nat) (h : d < 10) : (UInt8.ofNat (48 + d)).toNat = 48 + d := by
  rw [UInt8.toNat_ofNat']
  omega

theorem decDigits_digits (u : Nat) : ∀ c ∈ decDigits u, isDigit c := by
  induction u using Nat.strongRecOn with
  | _ u ih =>
    intro c hc
    rw [decDigits] at hc
    split at hc
    · rw [List.mem_singleton] at hc
      subst hc
      unfold isDigit
      rw [digit_of u (by omega)]
      omega
    · rw [List.mem_append] at hc
      rcases hc with hc | hc
      · exact ih _ (by omega) c hc
      · rw [List.mem_singleton] at hc
        subst hc
        unfold isDigit
        rw [digit_of (u % 10) (by omega)]
        omega

theorem decDigits_ne (u : Nat) : decDigits u ≠ [] := by
  rw [decDigits]
  split <;> simp

theorem parse_append (M : Nat) : ∀ (l r : List UInt8) (acc a : Nat), parseUintM M acc l = .ok a → parseUintM M acc (l ++ r) = parseUintM M a r
  | [], r, acc, a, h => by
    simp only [parseUintM] at h
    injection h with h
    subst h
    rfl
  | c :: l, r, acc, a, h => by
    rw [List.cons_append]
    simp only [parseUintM] at h ⊢
    by_cases h1 : 48 ≤ c.toNat ∧ c.toNat ≤ 57
    · rw [if_pos h1] at h ⊢
      by_cases h2 : 1844674407370955162 ≤ acc
      · rw [if_pos h2] at h
        cases h
      · rw [if_neg h2] at h ⊢
        by_cases h3 : M < acc * 10 + (c.toNat - 48)
        · rw [if_pos h3] at h
          cases h
        · rw [if_neg h3] at h ⊢
          exact parse_append M l r _ a h
    · rw [if_neg h1] at h
      cases h

theorem parse_digits (M : Nat) (hM : M ≤ 18446744073709551615) (u : Nat) (hu : u ≤ M) : parseUintM M 0 (decDigits u) = .ok u := by
  induction u using Nat.strongRecOn with
  | _ u ih =>
    rw [decDigits]
    split
    · rename_i h
      unfold parseUintM
      rw [digit_of u h, if_pos (by omega), if_neg (by omega), if_neg (by omega)]
      simp [parseUintM]
    · rename_i h
      rw [parse_append M _ _ _ _ (ih (u / 10) (by omega) (by omega))]
      unfold parseUintM
      rw [digit_of (u % 10) (by omega), if_pos (by omega), if_neg (by omega), if_neg (by omega)]
      simp only [parseUintM]
      congr 1
      omega

theorem digits_head (u : Nat) : ∃ c r, decDigits u = c :: r ∧ isDigit c := by
  cases h : decDigits u with
  | nil => exact absurd h (decDigits_ne u)
  | cons c r => exact ⟨c, r, rfl, decDigits_digits u c (by rw [h]; simp)⟩

theorem parse_itoa (n : Int) (h1 : -9223372036854775808 ≤ n) (h2 : n ≤ 9223372036854775807) : parseIntB 64 (itoa n) = .ok n := by
  unfold itoa
  split
  · rename_i h
    have hp := parse_digits 18446744073709551615 (by decide) n.natAbs (by omega)
    have hu : parseUintB 64 (decDigits n.natAbs) = .ok n.natAbs := by
      unfold parseUintB
      rw [if_neg (decDigits_ne _)]
      exact hp
    have e : (45 : UInt8).toNat = 45 := rfl
    unfold parseIntB
    simp only [e, or_true, if_true, hu]
    rw [if_neg (by simp), if_neg (by rintro ⟨_, h⟩; simp at h; omega)]
    congr 1
    omega
  · rename_i h
    obtain ⟨c, r, hd, hc⟩ := digits_head n.toNat
    unfold isDigit at hc
    have hp := parse_digits 18446744073709551615 (by decide) n.toNat (by omega)
    rw [hd] at hp ⊢
    have hu : parseUintB 64 (c :: r) = .ok n.toNat := by
      unfold parseUintB
      rw [if_neg (by simp)]
      exact hp
    have e1 : ¬ c.toNat = 43 := by omega
    have e2 : ¬ c.toNat = 45 := by omega
    unfold parseIntB
    simp only [e1, e2, or_false, if_false]
    rw [hu]
    simp only []
    rw [if_neg (by rintro ⟨_, h⟩; simp at h; omega), if_neg (by rintro ⟨h, _⟩; exact h)]
    congr 1
    omega

theorem itoa_inj {a b : Int} (h1 : -9223372036854775808 ≤ a) (h2 : a ≤ 9223372036854775807) (h3 : -9223372036854775808 ≤ b) (h4 : b ≤ 9223372036854775807) (h : itoa a = itoa b) : a = b := by
  have e := parse_itoa a h1 h2
  rw [h, parse_itoa b h3 h4] at e
  injection e with e
  exact e.symm

/-- A numeral's bytes: digits and the minus. -/
theorem itoa_bytes (n : Int) : ∀ c ∈ itoa n, isDigit c ∨ c = 45 := by
  intro c hc
  unfold itoa at hc
  split at hc
  · simp at hc
    rcases hc with rfl | hc
    · exact .inr rfl
    · exact .inl (decDigits_digits _ c hc)
  · exact .inl (decDigits_digits _ c hc)

theorem itoa_ne (n : Int) : itoa n ≠ [] := by
  unfold itoa
  split
  · simp
  · exact decDigits_ne _

theorem index_one (l r : List UInt8) (c : UInt8) (h : c ∉ l) : index (l ++ c :: r) [c] = l.length := by
  induction l with
  | nil => simp [index]
  | cons b l ih =>
    have hb : b ≠ c := fun e => h (by simp [e])
    have hl : c ∉ l := fun e => h (by simp [e])
    rw [List.cons_append]
    unfold index
    rw [ih hl]
    have hp : ([c] : List UInt8).isPrefixOf (b :: (l ++ c :: r)) = false := by
      simp [List.isPrefixOf]
      exact fun e => hb e.symm
    rw [hp]
    have : ((l.length : Int) == -1) = false := by rw [beq_eq_false_iff_ne]; omega
    simp [this]

theorem index_none (l : List UInt8) (c : UInt8) (h : c ∉ l) : index l [c] = -1 := by
  induction l with
  | nil => simp [index]
  | cons b l ih =>
    have hb : b ≠ c := fun e => h (by simp [e])
    have hl : c ∉ l := fun e => h (by simp [e])
    unfold index
    rw [ih hl]
    have hp : ([c] : List UInt8).isPrefixOf (b :: l) = false := by
      simp [List.isPrefixOf]
      exact fun e => hb e.symm
    rw [hp]
    simp

theorem cut_at (l r : List UInt8) (c : UInt8) (h : c ∉ l) : cut (l ++ c :: r) [c] = (l, r, true) := by
  unfold cut
  rw [index_one l r c h, if_pos (by omega)]
  simp [List.drop_append]

theorem cut_none (l : List UInt8) (c : UInt8) (h : c ∉ l) : cut l [c] = (l, [], false) := by
  unfold cut
  rw [index_none l c h, if_neg (by omega)]

end Go.Proofs.Ytmgdodgofpapgaa

namespace Go.Proofs.Ytmgdodgofpapgaa
open Go.RowKit

/-- The slice value v reads as the list xs, each element in 'size' cells that R relates to it; all of it below block B. -/
def SlR {α : Type} (R : World → Nat → List Value → α → Prop) (size : Nat) (w : World) (B : Nat) (v : Value) (xs : List α) : Prop :=
  ∃ (A : Option Addr) (c : Nat), v = .slice A xs.length c ∧ xs.length ≤ c ∧ c ≤ maxLen ∧
    (0 < xs.length → ∃ b off, A = some ⟨b, off, none⟩ ∧ b < B ∧
      ∀ (k : Nat) (x : α), xs[k]? = some x → ∃ us, us.length = size ∧ R w B us x ∧ ∀ (j : Nat) (u : Value), us[j]? = some u → w.cell? ⟨b, off + k * size + j, none⟩ = some u)

/-- Plain elements: the cells are a function of the element. -/
def Pl {α : Type} (f : α → List Value) : World → Nat → List Value → α → Prop := fun _ _ us x => us = f x

def Stays {α : Type} (R : World → Nat → List Value → α → Prop) : Prop := ∀ (w w' : World) (B B' : Nat) us x, R w B us x → Below B w w' → B ≤ B' → R w' B' us x

theorem Pl.stays {α : Type} (f : α → List Value) : Stays (Pl f) := fun _ _ _ _ _ _ h _ _ => h

theorem SlR.on {α : Type} {R : World → Nat → List Value → α → Prop} {size : Nat} {w w' : World} {B B' : Nat} {v : Value} {xs : List α} (h : SlR R size w B v xs) (hR : Stays R) (hb : Below B w w') (hB : B ≤ B') : SlR R size w' B' v xs := by
  obtain ⟨A, c, rfl, h1, h2, h3⟩ := h
  refine ⟨A, c, rfl, h1, h2, fun h0 => ?_⟩
  obtain ⟨b, off, rfl, hlt, hk⟩ := h3 h0
  refine ⟨b, off, rfl, by omega, fun k x hx => ?_⟩
  obtain ⟨us, hl, hr, hc⟩ := hk k x hx
  exact ⟨us, hl, hR _ _ _ _ _ _ hr hb hB, fun j u hu => (hb.cell (p := ⟨b, off + k * size + j, none⟩) hlt).trans (hc j u hu)⟩

/-- An empty list. -/
theorem SlR.nil {α : Type} (R : World → Nat → List Value → α → Prop) (size : Nat) (w : World) (B : Nat) (A : Option Addr) (c : Nat) (hc : c ≤ maxLen) : SlR R size w B (.slice A 0 c) ([] : List α) :=
  ⟨A, c, rfl, Nat.zero_le _, hc, fun h => absurd h (Nat.lt_irrefl 0)⟩

theorem flat_at {α β : Type} (f : α → List β) {size : Nat} (hf : ∀ x, (f x).length = size) : ∀ (xs : List α) (k : Nat) (x : α) (j : Nat) (u : β), xs[k]? = some x → (f x)[j]? = some u → j < size → (xs.flatMap f)[k * size + j]? = some u
  | [], k, x, j, u, hx, _, _ => by simp at hx
  | y :: ys, 0, x, j, u, hx, hu, hj => by
    simp only [List.getElem?_cons_zero, Option.some.injEq] at hx
    subst hx
    rw [List.flatMap_cons, List.getElem?_append_left (by rw [hf]; omega)]
    simpa using hu
  | y :: ys, k + 1, x, j, u, hx, hu, hj => by
    rw [List.flatMap_cons, List.getElem?_append_right (by rw [hf, Nat.succ_mul]; omega), hf, show (k + 1) * size + j - size = k * size + j by rw [Nat.succ_mul]; omega]
    exact flat_at f hf ys k x j u (by simpa using hx) hu hj

/-- What an append or a make has left: a row of the call's own. -/
theorem SlR.of_own {α : Type} (f : α → List Value) {size : Nat} {w : World} {base : Nat} {e : TypeId} {v : Value} {xs : List α} (hf : ∀ x, (f x).length = size) (h : w.ownsRow base e size v xs.length (xs.flatMap f)) : SlR (Pl f) size w w.heap.size v xs := by
  obtain ⟨hl, h | ⟨g, cap, cur, rfl, hg, hh, h1, h2, h3, h4⟩⟩ := h
  · obtain ⟨rfl, h0⟩ := h
    have : xs = [] := List.eq_nil_of_length_eq_zero h0
    subst this
    exact SlR.nil _ _ _ _ _ _ (Nat.zero_le _)
  · refine ⟨_, cap, rfl, h1, h2, fun h0 => ⟨g, 0, rfl, ?_, fun k x hx => ⟨f x, hf x, rfl, fun j u hu => ?_⟩⟩⟩
    · rcases Nat.lt_or_ge g w.heap.size with hlt | hge
      · exact hlt
      · rw [Array.getElem?_eq_none hge] at hh; cases hh
    · have hk : k < xs.length := (List.getElem?_eq_some_iff.1 hx).1
      have hj : j < size := by rw [← hf x]; exact (List.getElem?_eq_some_iff.1 hu).1
      have hflat := flat_at f hf xs k x j u hx hu hj
      have hlt : k * size + j < xs.length * size := by
        have : (k + 1) * size ≤ xs.length * size := Nat.mul_le_mul_right _ hk
        rw [Nat.succ_mul] at this
        omega
      have hcur : cur[k * size + j]? = some u := by
        rw [← Array.getElem?_toList, ← hflat, ← h4, List.getElem?_take, if_pos hlt]
      show w.cell? ⟨g, 0 + k * size + j, none⟩ = some u
      rw [Nat.zero_add]
      simp [World.cell?, hh, hcur]

end Go.Proofs.Ytmgdodgofpapgaa

namespace Go.Proofs.Ytmgdodgofpapgaa
open Go.Lib

def allLt (n : Nat) (f : Nat → Bool) : Bool := (List.range n).all f
theorem allLt_succ (n : Nat) (f : Nat → Bool) : allLt (n + 1) f = (allLt n f && f n) := by
  unfold allLt
  rw [List.range_succ, List.all_append]
  simp
theorem allLt_true {n : Nat} {f : Nat → Bool} : allLt n f = true ↔ ∀ k, k < n → f k = true := by
  unfold allLt
  simp
theorem allLt_false {n k : Nat} {f : Nat → Bool} (hk : k < n) (h : f k = false) : allLt n f = false := by
  rw [Bool.eq_false_iff]
  intro e
  rw [allLt_true] at e
  rw [e k hk] at h
  cases h

structure Edit where
  kind : Int
  id : Int
  old : ByteArray
  new : ByteArray

def editCells (e : Edit) : List Value := [.int .i64 e.kind, .int .i64 e.id, .string e.old, .string e.new]
def editV (e : Edit) : Value := .agg #[.int .i64 e.kind, .int .i64 e.id, .string e.old, .string e.new]

structure Deed where
  kind : Int
  member : Int
  trust : List Int
  title : ByteArray
  vote : Int
  patch : List Edit
  start : Int
  until_ : Int
  closes : Int

def sentCh (c : Nat) : Bool := (decide (97 ≤ c) && decide (c ≤ 122)) || (decide (48 ≤ c) && decide (c ≤ 57)) || decide (c = 32)
def byteAt (l : List UInt8) (k : Nat) : Nat := (l.getD k 0).toNat
def okSent (l : List UInt8) : Bool :=
  allLt l.length (fun k => sentCh (byteAt l k)) && decide (1 ≤ l.length) && decide (l.length ≤ 24) && decide (byteAt l 0 ≠ 32) && decide (byteAt l (l.length - 1) ≠ 32)

def okName (l : List UInt8) : Bool :=
  allLt l.length (fun k => decide (97 ≤ byteAt l k) && decide (byteAt l k ≤ 122)) && decide (1 ≤ l.length) && decide (l.length ≤ 10)

def okEdit (e : Edit) : Bool :=
  inB e.id 1 99 && ((decide (e.kind = 1) && decide (e.old.toList = []) && okSent e.new.toList) || (decide (e.kind = 2) && okSent e.old.toList && decide (e.new.toList = [])) ||
    (decide (e.kind = 3) && okSent e.old.toList && okSent e.new.toList && !(e.old.toList == e.new.toList)))

def idAt (p : List Edit) (k : Nat) : Int := ((p[k]?).map (·.id)).getD 0
def okPatch (p : List Edit) : Bool :=
  allLt p.length (fun k => ((p[k]?).map okEdit).getD true && (decide (k = 0) || decide (idAt p (k - 1) < idAt p k))) && decide (p.length ≤ 16)

def editText (e : Edit) : List UInt8 :=
  if e.kind = 1 then 43 :: (itoa e.id ++ 32 :: (e.new.toList ++ [10])) else if e.kind = 2 then 45 :: (itoa e.id ++ 32 :: (e.old.toList ++ [10])) else 126 :: (itoa e.id ++ 32 :: (e.old.toList ++ 124 :: (e.new.toList ++ [10])))
def patchText (p : List Edit) : List UInt8 := p.flatMap editText

def okTrust (l : List Int) (member n : Int) : Bool :=
  allLt l.length (fun k => inB (l.getD k 0) 0 (n - 1) && decide (l.getD k 0 ≠ member) && !((l.take k).contains (l.getD k 0))) && decide (l.length ≤ 4)

def okSpan (p : List Edit) (closes start until_ : Int) : Bool :=
  !p.isEmpty && okPatch p && inB closes 1 999 && decide (closes ≤ start) && decide (start < until_) && decide (until_ ≤ 1000)

def okDeed (d : Deed) : Bool :=
  let plain := d.patch.isEmpty && decide (d.start = 0) && decide (d.until_ = 0) && decide (d.closes = 0)
  (decide (d.kind = 1) && inB d.member 0 11 && okTrust d.trust d.member 12 && decide (d.title.toList = []) && decide (d.vote = 0) && plain) ||
  (decide (d.kind = 2) && inB d.member 0 11 && okName d.title.toList && inB d.vote 0 3 && d.trust.isEmpty && plain) ||
  (decide (d.kind = 3) && inB d.member 0 11 && okName d.title.toList && okSpan d.patch d.closes d.start d.until_ && d.trust.isEmpty && decide (d.vote = 0)) ||
  (decide (d.kind = 4) && decide (d.member = 0) && d.trust.isEmpty && decide (d.title.toList = []) && decide (d.vote = 0) && plain)

end Go.Proofs.Ytmgdodgofpapgaa

namespace Go.Proofs.Ytmgdodgofpapgaa
open Go.RowKit

theorem byteAt_of (s : ByteArray) (k : Nat) (h : k < s.size) : byteAt s.data.toList k = s[k].toNat := by
  unfold byteAt
  rw [List.getD_eq_getElem?_getD, List.getElem?_eq_getElem (by simpa using h)]
  rfl

theorem sentCh_iff (c : Nat) : sentCh c = true ↔ (97 ≤ c ∧ c ≤ 122) ∨ (48 ≤ c ∧ c ≤ 57) ∨ c = 32 := by
  unfold sentCh
  simp [or_assoc]
theorem sentCh_false {c : Nat} (h : ¬ ((97 ≤ c ∧ c ≤ 122) ∨ (48 ≤ c ∧ c ≤ 57) ∨ c = 32)) : sentCh c = false := by
  rw [Bool.eq_false_iff]
  exact fun e => h ((sentCh_iff c).1 e)
theorem okSent_bad (l : List UInt8) (k : Nat) (hk : k < l.length) (h : sentCh (byteAt l k) = false) : okSent l = false := by
  unfold okSent
  rw [allLt_false hk h]
  rfl

set_option maxHeartbeats 2000000 in
theorem sent2_any (s : ByteArray) (w : World) (hs : s.size ≤ maxLen) :
    Calls Try.prog 62 #[.string s] w (RetQ (.bool (okSent s.toList)) w) := by
  rw [ByteArray.toList_eq]
  unfold maxLen at hs
  go_enter Try.func62, Try.ntmps62
  go_wp2
  go_loop [3, 6] (fun _ i => ∃ k : Nat, k ≤ s.size ∧ i = .int .i64 (k : Int) ∧ allLt k (fun j => sentCh (byteAt s.data.toList j)) = true) (fun _ i => s.size - (intOf i).toNat)
  case atStart => exact ⟨0, Nat.zero_le _, rfl, rfl⟩
  case round =>
    obtain ⟨k, hk, rfl, hall⟩ := hrel
    have HA := Lib.hid hall
    clear hall
    by_cases hlt : k < s.size
    · have hc := byteAt_of s k hlt
      have HS := allLt_succ k (fun j => sentCh (byteAt s.data.toList j))
      rw [HA.out, Bool.true_and, hc] at HS
      have HS := Lib.hid HS
      have HC := Lib.hid hc
      clear hc
      have hh : (97 ≤ s[k].toNat ∧ s[k].toNat ≤ 122) ∨ (122 < s[k].toNat) ∨ (48 ≤ s[k].toNat ∧ s[k].toNat ≤ 57) ∨ (57 < s[k].toNat ∧ s[k].toNat < 97) ∨ s[k].toNat = 32 ∨ (s[k].toNat < 48 ∧ s[k].toNat ≠ 32) := by omega
      rcases hh with hh | hh | hh | hh | hh | hh
      · have a1 : ¬ (s[k].toNat : Int) < 97 := by omega
        have a2 : decide ((122 : Int) < (s[k].toNat : Int)) = false := by simp; omega
        have hsc : sentCh s[k].toNat = true := (sentCh_iff _).2 (by omega)
        have HSC := Lib.hid hsc
        clear hsc hh
        go_wp2
        go_round
        case rel => exact ⟨k + 1, by omega, by go_num, HS.out.trans HSC.out⟩
        case measure => simp [intOf]; omega
      · have a1 : ¬ (s[k].toNat : Int) < 97 := by omega
        have a2 : (122 : Int) < (s[k].toNat : Int) := by omega
        have a3 : ¬ (s[k].toNat : Int) < 48 := by omega
        have a4 : (57 : Int) < (s[k].toNat : Int) := by omega
        have a5 : ((s[k].toNat : Int) != 32) = true := by rw [bne_iff_ne]; omega
        have a6 : ((s[k].toNat : Int) == 32) = false := by rw [beq_eq_false_iff_ne]; omega
        have hsc : sentCh s[k].toNat = false := sentCh_false (by omega)
        have HSC := Lib.hid hsc
        clear hsc hh
        go_wp2
        go_ret
        exact ⟨by rw [okSent_bad s.data.toList k (by simpa using hlt) (by rw [HC.out]; exact HSC.out)]; rfl, 0, rfl⟩
      · have a1 : (s[k].toNat : Int) < 97 := by omega
        have a3 : ¬ (s[k].toNat : Int) < 48 := by omega
        have a4 : decide ((57 : Int) < (s[k].toNat : Int)) = false := by simp; omega
        have hsc : sentCh s[k].toNat = true := (sentCh_iff _).2 (by omega)
        have HSC := Lib.hid hsc
        clear hsc hh
        go_wp2
        go_round
        case rel => exact ⟨k + 1, by omega, by go_num, HS.out.trans HSC.out⟩
        case measure => simp [intOf]; omega
      · have a1 : (s[k].toNat : Int) < 97 := by omega
        have a3 : ¬ (s[k].toNat : Int) < 48 := by omega
        have a4 : (57 : Int) < (s[k].toNat : Int) := by omega
        have a5 : ((s[k].toNat : Int) != 32) = true := by rw [bne_iff_ne]; omega
        have a6 : ((s[k].toNat : Int) == 32) = false := by rw [beq_eq_false_iff_ne]; omega
        have hsc : sentCh s[k].toNat = false := sentCh_false (by omega)
        have HSC := Lib.hid hsc
        clear hsc hh
        go_wp2
        go_ret
        exact ⟨by rw [okSent_bad s.data.toList k (by simpa using hlt) (by rw [HC.out]; exact HSC.out)]; rfl, 0, rfl⟩
      · have a1 : (s[k].toNat : Int) < 97 := by omega
        have a3 : (s[k].toNat : Int) < 48 := by omega
        have a5 : ((s[k].toNat : Int) != 32) = false := by simp; omega
        have a6 : ((s[k].toNat : Int) == 32) = true := by simp; omega
        have hsc : sentCh s[k].toNat = true := (sentCh_iff _).2 (by omega)
        have HSC := Lib.hid hsc
        clear hsc hh
        go_wp2
        go_round
        case rel => exact ⟨k + 1, by omega, by go_num, HS.out.trans HSC.out⟩
        case measure => simp [intOf]; omega
      · have a1 : (s[k].toNat : Int) < 97 := by omega
        have a3 : (s[k].toNat : Int) < 48 := by omega
        have a5 : ((s[k].toNat : Int) != 32) = true := by rw [bne_iff_ne]; omega
        have a6 : ((s[k].toNat : Int) == 32) = false := by rw [beq_eq_false_iff_ne]; omega
        have hsc : sentCh s[k].toNat = false := sentCh_false (by omega)
        have HSC := Lib.hid hsc
        clear hsc hh
        go_wp2
        go_ret
        exact ⟨by rw [okSent_bad s.data.toList k (by simpa using hlt) (by rw [HC.out]; exact HSC.out)]; rfl, 0, rfl⟩
    · have hk' : k = s.size := by omega
      have hdec : okSent s.data.toList = (decide (1 ≤ s.size) && decide (s.size ≤ 24) && decide (byteAt s.data.toList 0 ≠ 32) && decide (byteAt s.data.toList (s.size - 1) ≠ 32)) := by
        unfold okSent
        have e : s.data.toList.length = s.size := by simp
        rw [e]
        have h := HA.out
        rw [hk'] at h
        rw [h, Bool.true_and]
      have HD := Lib.hid hdec
      clear hdec
      have hlt2 : decide ((k : Int) < (s.size : Int)) = false := by simp; omega
      by_cases h1 : 1 ≤ s.size
      · by_cases h2 : s.size ≤ 24
        · have b0 := byteAt_of s 0 (by omega)
          have b1 := byteAt_of s (s.size - 1) (by omega)
          have B0 := Lib.hid b0
          have B1 := Lib.hid b1
          have e1 : (1 : Int) ≤ (s.size : Int) := by omega
          have e2 : decide ((s.size : Int) ≤ 24) = true := by simp; omega
          clear b0 b1 hk' hlt2
          have hge : ¬ (k : Int) < (s.size : Int) := by omega
          by_cases h3 : s[0].toNat = 32
          · have e3 : ((s[0].toNat : Int) != 32) = false := by simp; omega
            go_wp2
            go_ret
            exact ⟨by rw [HD.out, B0.out]; simp [h3], 0, rfl⟩
          · have e3 : ((s[0].toNat : Int) != 32) = true := by simp; omega
            by_cases h4 : s[s.size - 1].toNat = 32
            · have e4 : ((s[s.size - 1].toNat : Int) != 32) = false := by simp; omega
              go_wp2
              go_ret
              exact ⟨by rw [HD.out, B1.out]; simp [h4], 0, rfl⟩
            · have e4 : ((s[s.size - 1].toNat : Int) != 32) = true := by simp; omega
              go_wp2
              go_ret
              exact ⟨by rw [HD.out, B0.out, B1.out]; simp [h1, h2, h3, h4], 0, rfl⟩
        · have e1 : (1 : Int) ≤ (s.size : Int) := by omega
          have e2 : decide ((s.size : Int) ≤ 24) = false := by simp; omega
          have hge : ¬ (k : Int) < (s.size : Int) := by omega
          clear hk' hlt2
          have H2 := Lib.hid h2
          clear h2
          go_wp2
          go_ret
          exact ⟨by rw [HD.out]; simp [H2.out], 0, rfl⟩
      · have e1 : decide ((1 : Int) ≤ (s.size : Int)) = false := by simp; omega
        have hge : ¬ (k : Int) < (s.size : Int) := by omega
        have H1 := Lib.hid h1
        clear hk' hlt2 h1
        go_wp2
        go_ret
        exact ⟨by rw [HD.out]; simp [H1.out], 0, rfl⟩
end Go.Proofs.Ytmgdodgofpapgaa

namespace Go.Proofs.Ytmgdodgofpapgaa
open Go.RowKit

theorem okEdit_add {e : Edit} (h : inB e.id 1 99 = true) (hk : e.kind = 1) : okEdit e = (decide (e.old.toList = []) && okSent e.new.toList) := by
  unfold okEdit
  rw [h]
  simp [hk]
theorem okEdit_drop {e : Edit} (h : inB e.id 1 99 = true) (hk : e.kind = 2) : okEdit e = (okSent e.old.toList && decide (e.new.toList = [])) := by
  unfold okEdit
  rw [h]
  simp [hk]
theorem okEdit_change {e : Edit} (h : inB e.id 1 99 = true) (hk : e.kind = 3) : okEdit e = (okSent e.old.toList && okSent e.new.toList && !(e.old.toList == e.new.toList)) := by
  unfold okEdit
  rw [h]
  simp [hk]
theorem okEdit_other {e : Edit} (h1 : e.kind ≠ 1) (h2 : e.kind ≠ 2) (h3 : e.kind ≠ 3) : okEdit e = false := by
  unfold okEdit
  simp [h1, h2, h3]
theorem okEdit_id {e : Edit} (h : inB e.id 1 99 = false) : okEdit e = false := by
  unfold okEdit
  rw [h]
  rfl

def SizeOk (e : Edit) : Prop := e.old.size ≤ maxLen ∧ e.new.size ≤ maxLen

set_option maxHeartbeats 2000000 in
theorem edit2_any (e : Edit) (w : World) (hs : SizeOk e) :
    Calls Try.prog 56 #[editV e] w (RetB (.bool (okEdit e)) w) := by
  obtain ⟨kind, id, old, new⟩ := e
  obtain ⟨hs1, hs2⟩ := hs
  have hs1 : old.size ≤ maxLen := hs1
  have hs2 : new.size ≤ maxLen := hs2
  have HS1 := Lib.hid hs1
  have HS2 := Lib.hid hs2
  clear hs1 hs2
  show Calls Try.prog 56 #[.agg #[.int .i64 kind, .int .i64 id, .string old, .string new]] w _
  have hb0 : ∀ k, Below w.heap.size w ((w.alloc (.cells #[.int .i64 kind, .int .i64 id, .string old, .string new] 59)).drewN k) := fun k => below_drewN ((Below.refl _ _).alloc (Nat.le_refl _) _) k
  by_cases hid : 1 ≤ id ∧ id ≤ 99
  · have hin : inB id 1 99 = true := inB_true hid.1 hid.2
    have HI := Lib.hid hin
    have b1 := hid.1
    have b2 := hid.2
    clear hin hid
    rcases (show kind = 1 ∨ kind = 2 ∨ kind = 3 ∨ (kind ≠ 1 ∧ kind ≠ 2 ∧ kind ≠ 3) by omega) with rfl | rfl | rfl | ⟨n1, n2, n3⟩
    · have HK := Lib.hid (okEdit_add (e := ⟨1, id, old, new⟩) HI.out rfl)
      by_cases ho : old.toList = []
      · go_enter Try.func56, Try.ntmps56
        go_wp2_with (fail)
        refine (in2_yes _ _ _ _ b1 b2).mono ?_
        rintro e w1 ⟨rfl, k, rfl⟩
        go_wp2_with (fail)
        refine (sent2_any new _ HS2.out).mono ?_
        rintro e w2 ⟨rfl, k2, rfl⟩
        go_wp2
        go_ret
        exact ⟨by rw [HK.out]; simp [ho], hb0 _⟩
      · go_enter Try.func56, Try.ntmps56
        go_wp2_with (fail)
        refine (in2_yes _ _ _ _ b1 b2).mono ?_
        rintro e w1 ⟨rfl, k, rfl⟩
        go_wp2
        go_ret
        exact ⟨by rw [HK.out]; simp [ho], hb0 _⟩
    · have HK := Lib.hid (okEdit_drop (e := ⟨2, id, old, new⟩) HI.out rfl)
      cases ho : okSent old.toList with
      | true =>
        have HO := Lib.hid ho
        clear ho
        by_cases hn : new.toList = []
        · go_enter Try.func56, Try.ntmps56
          go_wp2_with (fail)
          refine (in2_yes _ _ _ _ b1 b2).mono ?_
          rintro e w1 ⟨rfl, k, rfl⟩
          go_wp2_with (fail)
          refine (sent2_any old _ HS1.out).mono ?_
          rintro e w2 ⟨rfl, k2, rfl⟩
          rw [HO.out]
          go_wp2
          go_ret
          exact ⟨by rw [HK.out]; simp [HO.out, hn], hb0 _⟩
        · go_enter Try.func56, Try.ntmps56
          go_wp2_with (fail)
          refine (in2_yes _ _ _ _ b1 b2).mono ?_
          rintro e w1 ⟨rfl, k, rfl⟩
          go_wp2_with (fail)
          refine (sent2_any old _ HS1.out).mono ?_
          rintro e w2 ⟨rfl, k2, rfl⟩
          rw [HO.out]
          go_wp2
          go_ret
          exact ⟨by rw [HK.out]; simp [HO.out, hn], hb0 _⟩
      | false =>
        have HO := Lib.hid ho
        clear ho
        go_enter Try.func56, Try.ntmps56
        go_wp2_with (fail)
        refine (in2_yes _ _ _ _ b1 b2).mono ?_
        rintro e w1 ⟨rfl, k, rfl⟩
        go_wp2_with (fail)
        refine (sent2_any old _ HS1.out).mono ?_
        rintro e w2 ⟨rfl, k2, rfl⟩
        rw [HO.out]
        go_wp2
        go_ret
        exact ⟨by rw [HK.out]; simp [HO.out], hb0 _⟩
    · have HK := Lib.hid (okEdit_change (e := ⟨3, id, old, new⟩) HI.out rfl)
      cases ho : okSent old.toList with
      | true =>
        have HO := Lib.hid ho
        clear ho
        cases hn : okSent new.toList with
        | true =>
          have HN := Lib.hid hn
          clear hn
          cases he : (old.toList == new.toList) with
          | true =>
            go_enter Try.func56, Try.ntmps56
            go_wp2_with (fail)
            refine (in2_yes _ _ _ _ b1 b2).mono ?_
            rintro e w1 ⟨rfl, k, rfl⟩
            go_wp2_with (fail)
            refine (sent2_any old _ HS1.out).mono ?_
            rintro e w2 ⟨rfl, k2, rfl⟩
            rw [HO.out]
            go_wp2_with (fail)
            refine (sent2_any new _ HS2.out).mono ?_
            rintro e w2 ⟨rfl, k3, rfl⟩
            rw [HN.out]
            go_wp2
            go_ret
            exact ⟨by rw [HK.out]; simp [HO.out, HN.out, he], hb0 _⟩
          | false =>
            go_enter Try.func56, Try.ntmps56
            go_wp2_with (fail)
            refine (in2_yes _ _ _ _ b1 b2).mono ?_
            rintro e w1 ⟨rfl, k, rfl⟩
            go_wp2_with (fail)
            refine (sent2_any old _ HS1.out).mono ?_
            rintro e w2 ⟨rfl, k2, rfl⟩
            rw [HO.out]
            go_wp2_with (fail)
            refine (sent2_any new _ HS2.out).mono ?_
            rintro e w2 ⟨rfl, k3, rfl⟩
            rw [HN.out]
            go_wp2
            go_ret
            exact ⟨by rw [HK.out]; simp [HO.out, HN.out, he], hb0 _⟩
        | false =>
          have HN := Lib.hid hn
          clear hn
          go_enter Try.func56, Try.ntmps56
          go_wp2_with (fail)
          refine (in2_yes _ _ _ _ b1 b2).mono ?_
          rintro e w1 ⟨rfl, k, rfl⟩
          go_wp2_with (fail)
          refine (sent2_any old _ HS1.out).mono ?_
          rintro e w2 ⟨rfl, k2, rfl⟩
          rw [HO.out]
          go_wp2_with (fail)
          refine (sent2_any new _ HS2.out).mono ?_
          rintro e w2 ⟨rfl, k3, rfl⟩
          rw [HN.out]
          go_wp2
          go_ret
          exact ⟨by rw [HK.out]; simp [HO.out, HN.out], hb0 _⟩
      | false =>
        have HO := Lib.hid ho
        clear ho
        go_enter Try.func56, Try.ntmps56
        go_wp2_with (fail)
        refine (in2_yes _ _ _ _ b1 b2).mono ?_
        rintro e w1 ⟨rfl, k, rfl⟩
        go_wp2_with (fail)
        refine (sent2_any old _ HS1.out).mono ?_
        rintro e w2 ⟨rfl, k2, rfl⟩
        rw [HO.out]
        go_wp2
        go_ret
        exact ⟨by rw [HK.out]; simp [HO.out], hb0 _⟩
    · have HK := Lib.hid (okEdit_other (e := ⟨kind, id, old, new⟩) n1 n2 n3)
      have m1 : (kind == 1) = false := by simp; omega
      have m2 : (kind == 2) = false := by simp; omega
      have m3 : (kind == 3) = false := by simp; omega
      clear n1 n2 n3
      go_enter Try.func56, Try.ntmps56
      go_wp2_with (fail)
      refine (in2_yes _ _ _ _ b1 b2).mono ?_
      rintro e w1 ⟨rfl, k, rfl⟩
      go_wp2
      go_ret
      exact ⟨by rw [HK.out]; rfl, hb0 _⟩
  · have h' : id < 1 ∨ 99 < id := by omega
    have HK := Lib.hid (okEdit_id (e := ⟨kind, id, old, new⟩) (inB_false h'))
    have HN := Lib.hid h'
    clear h' hid
    go_enter Try.func56, Try.ntmps56
    go_wp2_with (fail)
    refine (in2_no _ _ _ _ HN.out).mono ?_
    rintro e w1 ⟨rfl, k, rfl⟩
    go_wp2
    go_ret
    exact ⟨by rw [HK.out]; rfl, hb0 _⟩

end Go.Proofs.Ytmgdodgofpapgaa

namespace Go.Proofs.Ytmgdodgofpapgaa
open Go.RowKit

def Edits (w : World) (B : Nat) (v : Value) (es : List Edit) : Prop := SlR (Pl editCells) 4 w B v es
def SizesOk (es : List Edit) : Prop := ∀ e, e ∈ es → SizeOk e

theorem edits_at {w : World} {B b off : Nat} {es : List Edit} (h : ∀ (k : Nat) (x : Edit), es[k]? = some x → ∃ us, us.length = 4 ∧ Pl editCells w B us x ∧ ∀ (j : Nat) (u : Value), us[j]? = some u → w.cell? ⟨b, off + k * 4 + j, none⟩ = some u) {k : Nat} {e : Edit} (hk : es[k]? = some e) :
    w.cell? ⟨b, off + k * 4, none⟩ = some (.int .i64 e.kind) ∧ w.cell? ⟨b, off + k * 4 + 1, none⟩ = some (.int .i64 e.id) ∧ w.cell? ⟨b, off + k * 4 + 2, none⟩ = some (.string e.old) ∧ w.cell? ⟨b, off + k * 4 + 3, none⟩ = some (.string e.new) := by
  obtain ⟨us, hl, hp, hc⟩ := h k e hk
  have hp : us = editCells e := hp
  subst hp
  exact ⟨hc 0 _ rfl, hc 1 _ rfl, hc 2 _ rfl, hc 3 _ rfl⟩

def patchAt (p : List Edit) (k : Nat) : Bool := ((p[k]?).map okEdit).getD true && (decide (k = 0) || decide (idAt p (k - 1) < idAt p k))
theorem okPatch_eq (p : List Edit) : okPatch p = (allLt p.length (patchAt p) && decide (p.length ≤ 16)) := rfl

theorem patchAt_bad {p : List Edit} {k : Nat} {e : Edit} (h : p[k]? = some e) (ho : okEdit e = false) : patchAt p k = false := by
  unfold patchAt
  rw [h]
  simp [ho]
theorem patchAt_zero {p : List Edit} {k : Nat} {e : Edit} (hk : k = 0) (h : p[k]? = some e) (ho : okEdit e = true) : patchAt p k = true := by
  subst hk
  unfold patchAt
  rw [h]
  simp [ho]
theorem patchAt_succ {p : List Edit} {m : Nat} {d e : Edit} (hd : p[m]? = some d) (h : p[m + 1]? = some e) (ho : okEdit e = true) : patchAt p (m + 1) = decide (d.id < e.id) := by
  unfold patchAt idAt
  rw [h]
  simp [ho, hd]
theorem okPatch_bad {p : List Edit} {k : Nat} (hk : k < p.length) (h : patchAt p k = false) : okPatch p = false := by
  rw [okPatch_eq, allLt_false hk h]
  rfl

theorem edit2_val (e : Edit) (w : World) (hs : SizeOk e) (r : Bool) (h : okEdit e = r) :
    Calls Try.prog 56 #[.agg #[.int .i64 e.kind, .int .i64 e.id, .string e.old, .string e.new]] w (RetB (.bool r) w) := by
  rw [← h]
  exact edit2_any e w hs

set_option maxHeartbeats 4000000 in
theorem patch2_any (es : List Edit) (w : World) (v : Value) (h : Edits w w.heap.size v es) (hs : SizesOk es) :
    Calls Try.prog 29 #[v] w (RetB (.bool (okPatch es)) w) := by
  obtain ⟨A, c, rfl, hc, hm, hel⟩ := h
  unfold maxLen at hm
  have hlm : es.length ≤ 9223372036854775807 := by omega
  have HEL := Lib.hid hel
  have HS := Lib.hid hs
  clear hel hs
  go_enter Try.func29, Try.ntmps29
  go_wp2
  go_loopw [3, 4, 7] (fun _ _ i wr => ∃ k : Nat, k ≤ es.length ∧ i = .int .i64 (k : Int) ∧ allLt k (patchAt es) = true ∧ Below w.heap.size w wr) (fun _ _ i _ => es.length - (intOf i).toNat)
  case atStart => exact ⟨0, Nat.zero_le _, rfl, rfl, Below.refl _ _⟩
  case round =>
    obtain ⟨k, hk, rfl, hall, hb⟩ := hrel
    have HA := Lib.hid hall
    clear hall
    by_cases hlt : k < es.length
    · obtain ⟨b, off, rfl, hblt, hcell⟩ := HEL.out (by omega)
      have hget : es[k]? = some es[k] := List.getElem?_eq_getElem hlt
      obtain ⟨c0, c1, c2, c3⟩ := edits_at hcell hget
      have x0 := (hb.cell (p := ⟨b, off + k * 4, none⟩) hblt).trans c0
      have x1 := (hb.cell (p := ⟨b, off + k * 4 + 1, none⟩) hblt).trans c1
      have x2 := (hb.cell (p := ⟨b, off + k * 4 + 2, none⟩) hblt).trans c2
      have x3 := (hb.cell (p := ⟨b, off + k * 4 + 3, none⟩) hblt).trans c3
      have HG := Lib.hid hget
      have HC := Lib.hid hcell
      have hso := HS.out es[k] (List.getElem_mem hlt)
      clear hget hcell c0 c1 c2 c3
      generalize es[k] = e at *
      cases hok : okEdit e with
      | false =>
        have HO := Lib.hid hok
        have HB := Lib.hid (okPatch_bad hlt (patchAt_bad HG.out hok))
        clear hok
        go_upto_region 4 with (fail)
        obtain ⟨W, hW⟩ : ∃ W : World, W = wr.alloc (.cells (editCells e).toArray 59) := ⟨_, rfl⟩
        change Code.wp _ _ _ _ (wr.alloc (.cells (editCells e).toArray 59))
        have bW : Below w.heap.size w W := by rw [hW]; exact hb.alloc hb.size _
        have y0 : W.cell? ⟨wr.heap.size, 0, none⟩ = some (.int .i64 e.kind) := by rw [hW]; simp [go_sem, editCells]
        have y1 : W.cell? ⟨wr.heap.size, 1, none⟩ = some (.int .i64 e.id) := by rw [hW]; simp [go_sem, editCells]
        have y2 : W.cell? ⟨wr.heap.size, 2, none⟩ = some (.string e.old) := by rw [hW]; simp [go_sem, editCells]
        have y3 : W.cell? ⟨wr.heap.size, 3, none⟩ = some (.string e.new) := by rw [hW]; simp [go_sem, editCells]
        rw [← hW]
        clear hW x0 x1 x2 x3
        have z0 := fun x : Aft W => x.cell y0
        have z1 := fun x : Aft W => x.cell y1
        have z2 := fun x : Aft W => x.cell y2
        have z3 := fun x : Aft W => x.cell y3
        clear y0 y1 y2 y3
        refine wp_region_aft (by kernel_rfl) (by kernel_rfl) ?_
        repeat (go_big_quiet_step ((go_at_call 56; exact aft_b (edit2_val e _ hso false HO.out))))
        refine wpQuiet_nil ?_
        rintro _ ⟨y, rfl⟩
        have bY := bW.trans (y.ok.mono bW.size)
        go_wp2
        go_ret
        exact ⟨by rw [HB.out]; rfl, bY⟩
      | true =>
        have HO := Lib.hid hok
        clear hok
        have HSU := allLt_succ k (patchAt es)
        rw [HA.out, Bool.true_and] at HSU
        have HSU := Lib.hid HSU
        by_cases hk0 : k = 0
        · have HN : Hid (allLt (k + 1) (patchAt es) = true) := HSU.out.trans (patchAt_zero hk0 HG.out HO.out)
          have hk1 : decide ((0 : Int) < (k : Int)) = false := by simp; omega
          have hk2 : decide (0 < k) = false := by simp; omega
          clear hk0
          go_upto_region 4 with (fail)
          obtain ⟨W, hW⟩ : ∃ W : World, W = wr.alloc (.cells (editCells e).toArray 59) := ⟨_, rfl⟩
          change Code.wp _ _ _ _ (wr.alloc (.cells (editCells e).toArray 59))
          have bW : Below w.heap.size w W := by rw [hW]; exact hb.alloc hb.size _
          have y0 : W.cell? ⟨wr.heap.size, 0, none⟩ = some (.int .i64 e.kind) := by rw [hW]; simp [go_sem, editCells]
          have y1 : W.cell? ⟨wr.heap.size, 1, none⟩ = some (.int .i64 e.id) := by rw [hW]; simp [go_sem, editCells]
          have y2 : W.cell? ⟨wr.heap.size, 2, none⟩ = some (.string e.old) := by rw [hW]; simp [go_sem, editCells]
          have y3 : W.cell? ⟨wr.heap.size, 3, none⟩ = some (.string e.new) := by rw [hW]; simp [go_sem, editCells]
          rw [← hW]
          clear hW x0 x1 x2 x3
          have z0 := fun x : Aft W => x.cell y0
          have z1 := fun x : Aft W => x.cell y1
          have z2 := fun x : Aft W => x.cell y2
          have z3 := fun x : Aft W => x.cell y3
          clear y0 y1 y2 y3
          refine wp_region_aft (by kernel_rfl) (by kernel_rfl) ?_
          repeat (go_big_quiet_step ((go_at_call 56; exact aft_b (edit2_val e _ hso true HO.out))))
          refine wpQuiet_nil ?_
          rintro _ ⟨y, rfl⟩
          have bY := bW.trans (y.ok.mono bW.size)
          go_wp2
          go_roundw
          case rel => exact ⟨k + 1, by omega, by go_num, HN.out, bY⟩
          case measure => simp [intOf]; omega
        · obtain ⟨m, rfl⟩ : ∃ m, k = m + 1 := ⟨k - 1, by omega⟩
          have hd : es[m]? = some (es[m]'(by omega)) := List.getElem?_eq_getElem (by omega)
          obtain ⟨_, d1, _, _⟩ := edits_at HC.out hd
          generalize (es[m]'(by omega)) = d at *
          have HP := Lib.hid (patchAt_succ hd HG.out HO.out)
          clear hd hk0
          by_cases hid : d.id < e.id
          · have HN : Hid (allLt (m + 1 + 1) (patchAt es) = true) := HSU.out.trans (HP.out.trans (decide_eq_true hid))
            have hid2 : ¬ (e.id ≤ d.id) := by omega
            go_upto_region 4 with (fail)
            obtain ⟨W, hW⟩ : ∃ W : World, W = wr.alloc (.cells (editCells e).toArray 59) := ⟨_, rfl⟩
            change Code.wp _ _ _ _ (wr.alloc (.cells (editCells e).toArray 59))
            have bW : Below w.heap.size w W := by rw [hW]; exact hb.alloc hb.size _
            have y0 : W.cell? ⟨wr.heap.size, 0, none⟩ = some (.int .i64 e.kind) := by rw [hW]; simp [go_sem, editCells]
            have y1 : W.cell? ⟨wr.heap.size, 1, none⟩ = some (.int .i64 e.id) := by rw [hW]; simp [go_sem, editCells]
            have y2 : W.cell? ⟨wr.heap.size, 2, none⟩ = some (.string e.old) := by rw [hW]; simp [go_sem, editCells]
            have y3 : W.cell? ⟨wr.heap.size, 3, none⟩ = some (.string e.new) := by rw [hW]; simp [go_sem, editCells]
            have y4 : W.cell? ⟨b, off + m * 4 + 1, none⟩ = some (.int .i64 d.id) := (bW.cell (p := ⟨b, off + m * 4 + 1, none⟩) hblt).trans d1
            have z4 := fun x : Aft W => x.cell y4
            clear d1 y4
            rw [← hW]
            clear hW x0 x1 x2 x3
            have z0 := fun x : Aft W => x.cell y0
            have z1 := fun x : Aft W => x.cell y1
            have z2 := fun x : Aft W => x.cell y2
            have z3 := fun x : Aft W => x.cell y3
            clear y0 y1 y2 y3
            refine wp_region_aft (by kernel_rfl) (by kernel_rfl) ?_
            repeat (go_big_quiet_step ((go_at_call 56; exact aft_b (edit2_val e _ hso true HO.out))))
            refine wpQuiet_nil ?_
            rintro _ ⟨y, rfl⟩
            have bY := bW.trans (y.ok.mono bW.size)
            go_wp2
            go_roundw
            case rel => exact ⟨(m + 1) + 1, by omega, by go_num, HN.out, bY⟩
            case measure => simp [intOf]; omega
          · have HB := Lib.hid (okPatch_bad hlt (HP.out.trans (decide_eq_false hid)))
            have hid2 : e.id ≤ d.id := by omega
            go_upto_region 4 with (fail)
            obtain ⟨W, hW⟩ : ∃ W : World, W = wr.alloc (.cells (editCells e).toArray 59) := ⟨_, rfl⟩
            change Code.wp _ _ _ _ (wr.alloc (.cells (editCells e).toArray 59))
            have bW : Below w.heap.size w W := by rw [hW]; exact hb.alloc hb.size _
            have y0 : W.cell? ⟨wr.heap.size, 0, none⟩ = some (.int .i64 e.kind) := by rw [hW]; simp [go_sem, editCells]
            have y1 : W.cell? ⟨wr.heap.size, 1, none⟩ = some (.int .i64 e.id) := by rw [hW]; simp [go_sem, editCells]
            have y2 : W.cell? ⟨wr.heap.size, 2, none⟩ = some (.string e.old) := by rw [hW]; simp [go_sem, editCells]
            have y3 : W.cell? ⟨wr.heap.size, 3, none⟩ = some (.string e.new) := by rw [hW]; simp [go_sem, editCells]
            have y4 : W.cell? ⟨b, off + m * 4 + 1, none⟩ = some (.int .i64 d.id) := (bW.cell (p := ⟨b, off + m * 4 + 1, none⟩) hblt).trans d1
            have z4 := fun x : Aft W => x.cell y4
            clear d1 y4
            rw [← hW]
            clear hW x0 x1 x2 x3
            have z0 := fun x : Aft W => x.cell y0
            have z1 := fun x : Aft W => x.cell y1
            have z2 := fun x : Aft W => x.cell y2
            have z3 := fun x : Aft W => x.cell y3
            clear y0 y1 y2 y3
            refine wp_region_aft (by kernel_rfl) (by kernel_rfl) ?_
            repeat (go_big_quiet_step ((go_at_call 56; exact aft_b (edit2_val e _ hso true HO.out))))
            refine wpQuiet_nil ?_
            rintro _ ⟨y, rfl⟩
            have bY := bW.trans (y.ok.mono bW.size)
            go_wp2
            go_ret
            exact ⟨by rw [HB.out]; rfl, bY⟩
    · have hk' : k = es.length := by omega
      have hP : okPatch es = decide (es.length ≤ 16) := by
        rw [okPatch_eq, ← hk', HA.out, Bool.true_and]
      have HP := Lib.hid hP
      have hge : ¬ (k : Int) < (es.length : Int) := by omega
      clear hP hk' hlt
      by_cases h16 : es.length ≤ 16
      · have e16 : decide ((es.length : Int) ≤ 16) = true := by simp; omega
        have H16 := Lib.hid h16
        clear h16
        go_wp2
        go_ret
        exact ⟨by rw [HP.out]; simp [H16.out], hb⟩
      · have e16 : decide ((es.length : Int) ≤ 16) = false := by simp; omega
        have H16 := Lib.hid h16
        clear h16
        go_wp2
        go_ret
        exact ⟨by rw [HP.out]; simp [H16.out], hb⟩
end Go.Proofs.Ytmgdodgofpapgaa
