/- Decimal numerals: what is written is read back. No program here. A byte replaced by a byte, as the library's ReplaceAll does it. No program here. Texts cut into parts, as plain functions. No program here. What all walks share: the posts of contracts, and small laws on worlds. Is a number in a range: the reference. Is a number in a range: the program. Slices in memory, read as lists. The texts of sentences, patches and deeds, as plain functions. No program here. Sentences, edits and patches: the program's tests, walked. Edits and patches: the program's tests, walked. Patches: the program's test, walked. Names and small tests, walked: the program's and the reference's. Lists of numbers: is a number among them; who may be trusted. Deeds: the program's test, walked. Empty: this seat needs no shelf here. What the library's functions do, and numbers as texts. The text of a patch, walked: the program's. Numbers in a row as a text, walked: the program's. The text of a deed, walked: the program's. What a text is the text of: the readers as plain functions; numbers, parts, lines. No program here. Sentences, walked: the reference's. Edits, walked: the reference's. Walks over later worlds: every world after W is 'x.val' for some x : Aft W; what is laid once for all of them holds at each step. Patches, walked: the reference's. Deeds, walked: the reference's test. Deeds, walked: the reference's test, kind by kind. Numbers as texts, walked: the reference's. (Under way.) -/
import Derived.Lib.ItoaLen
import Derived.Lib.ParseIntB
import Derived.Lib.IndexMore
import Derived.Lib.ItoaNum
import Derived.Lib.Replace
import Derived.Lib.CountLaws
import Derived.Lib.Join
import Derived.Test.YtnandbammmcncaaGreatProg
import Derived.WalkKit
import Derived.WalkSpells
import Derived.WalkLawsBesides
import Derived.Deep.QuietTactic
import Derived.BigQuiet
import Derived.Lib.Hide
import Derived.Deep.DeepCutAuto
import Derived.Deep.RegionHeld3
import Derived.RegionCalls
import Derived.Lib.AppendIntMem
import Derived.Lib.AtoiErrMem
import Derived.Lib.Split
namespace Go.Proofs.YtnandbammmcncaaGreat
open Go.Lib

def isDigit (c : UInt8) : Prop := 48 ≤ c.toNat ∧ c.toNat ≤ 57

theorem digit_of (d : Nat) (h : d < 10) : (UInt8.ofNat (48 + d)).toNat = 48 + d := by
  rw [UInt8.toNat_ofNat']
  omega

end Go.Proofs.YtnandbammmcncaaGreat

namespace Go.Proofs.YtnandbammmcncaaGreat
open Go.Lib

end Go.Proofs.YtnandbammmcncaaGreat

namespace Go.Proofs.YtnandbammmcncaaGreat
open Go.Lib

/-- A text up to the first byte of a kind, and behind it. -/
def cutL (c : UInt8) (l : List UInt8) : List UInt8 × List UInt8 := (l.takeWhile (· != c), (l.dropWhile (· != c)).drop 1)
/-- The parts of a text between bytes of a kind. -/
def splitC (c : UInt8) : List UInt8 → List (List UInt8)
  | [] => [[]]
  | x :: l => if x = c then [] :: splitC c l else match splitC c l with | s :: r => (x :: s) :: r | [] => [[x]]
end Go.Proofs.YtnandbammmcncaaGreat

namespace Go.Proofs.YtnandbammmcncaaGreat
open Go.RowKit

/-- Only block b and what is new has turned. -/
def Only (b : Nat) (w w' : World) : Prop := w.grownBy w' (some b)

theorem only_refl (b : Nat) (w : World) : Only b w w := ⟨rfl, rfl, rfl, Nat.le_refl _, fun _ _ _ => rfl⟩
theorem only_trans {a b c : World} {g : Nat} (h : Only g a b) (k : Only g b c) : Only g a c :=
  ⟨k.os.trans h.os, k.tape.trans h.tape, k.output.trans h.output, Nat.le_trans h.size k.size, fun i hi hn => (k.block i (Nat.lt_of_lt_of_le hi h.size) hn).trans (h.block i hi hn)⟩
theorem only_setCell {a w : World} {g : Nat} (h : Only g a w) {p : Addr} (hp : p.block = g ∨ a.heap.size ≤ p.block) (u : Value) : Only g a (w.setCell p u) :=
  ⟨h.os, h.tape, h.output, by simpa [World.setCell] using h.size, fun i hi hne => (Below.heap_setCell w p u i (by
    rintro rfl
    rcases hp with hp | hp
    · exact hne (by rw [hp])
    · omega)).trans (h.block i hi hne)⟩
theorem only_below {a w : World} {g B : Nat} (h : Only g a w) (hB : B ≤ g) (hs : B ≤ a.heap.size) : Below B a w :=
  ⟨h.os, h.tape, h.output, h.size, fun i hi => h.block i (by omega) (fun e => by injection e; omega)⟩

theorem only_cells {b : Nat} {w w1 : World} (h : Only b w w1) (c o : Nat) (hc : c < w.heap.size) (hne : c ≠ b) : w1.cell? ⟨c, o, none⟩ = w.cell? ⟨c, o, none⟩ ∧ w1.frozen? ⟨c, o, none⟩ = w.frozen? ⟨c, o, none⟩ := by
  have e : w1.heap[c]? = w.heap[c]? := h.block c hc (fun e => hne (by injection e))
  exact ⟨World.cell?_of_block e, World.frozen?_of_block e⟩

theorem ret_i64 {a b : Int} (h : a = b) : Ending.returned (.int .i64 a) = .returned (.int .i64 b) := by rw [h]

def RetInt (n : Int) (w : World) (e : Ending) (w' : World) : Prop := e = .returned (.int .i64 n) ∧ w = w'

theorem below_drewN {B : Nat} {a w : World} (h : Below B a w) (n : Nat) : Below B a (w.drewN n) := ⟨h.os, h.tape, h.output, h.size, h.block⟩
def RetQ (v : Value) (w : World) (e : Ending) (w' : World) : Prop := e = .returned v ∧ ∃ k, w' = w.drewN k
def RetB (v : Value) (w : World) (e : Ending) (w' : World) : Prop := e = .returned v ∧ Below w.heap.size w w'

/-- A world in which all that was in W is as it was. -/
structure Aft (W : World) where
  val : World
  ok : Below W.heap.size W val

instance aft_ne (W : World) : Nonempty (Aft W) := ⟨⟨W, Below.refl _ _⟩⟩

theorem Aft.cell {W : World} (x : Aft W) {b o : Nat} {v : Value} (h : W.cell? ⟨b, o, none⟩ = some v) : x.val.cell? ⟨b, o, none⟩ = some v := by
  have hb : b < W.heap.size := World.block_lt_of_cell? W ⟨b, o, none⟩ h
  exact (x.ok.cell (p := ⟨b, o, none⟩) hb).trans h
theorem Aft.frozen {W : World} (x : Aft W) {b o : Nat} (hb : b < W.heap.size) : x.val.frozen? ⟨b, o, none⟩ = W.frozen? ⟨b, o, none⟩ := x.ok.frozen (p := ⟨b, o, none⟩) hb

/-- A region that draws its order, whose operations read and whose calls leave what was as it was: one walk in the text's order. -/
theorem wp_region_aft {P : Program} {id : Nat} {Q : Exit → Act → World → Prop} {a : Act} {W : World} {l : List Oper} (hm : P.follows .mixedOrders = true) (hB : Region.lexB .any l.toArray = true)
    (h : wpQuiet P l.toArray (fun w' => ∃ x : Aft W, w' = x.val) (fun a' => ∀ w', (∃ x : Aft W, w' = x.val) → Q .normal a' w') l a) : (Code.region id l.toArray true).wp P Q a W :=
  wp_region_quiet (C := fun w' => ∃ x : Aft W, w' = x.val) hm hB ⟨⟨W.drew, (Below.refl _ _).drew⟩, rfl⟩ (by simpa using h)

theorem aft_b {P : Program} {f : FuncId} {args : Array Value} {W : World} {x : Aft W} {v : Value} (h : Calls P f args x.val (RetB v x.val)) :
    Calls P f args x.val fun e w'' => e = .returned v ∧ ∃ y : Aft W, w'' = y.val :=
  h.mono fun _ w'' ⟨he, hb⟩ => ⟨he, ⟨w'', x.ok.trans (hb.mono x.ok.size)⟩, rfl⟩
theorem aft_q {P : Program} {f : FuncId} {args : Array Value} {W : World} {x : Aft W} {v : Value} (h : Calls P f args x.val (RetQ v x.val)) :
    Calls P f args x.val fun e w'' => e = .returned v ∧ ∃ y : Aft W, w'' = y.val :=
  h.mono fun _ w'' ⟨he, k, hk⟩ => ⟨he, ⟨w'', by rw [hk]; exact below_drewN x.ok k⟩, rfl⟩

def inB (n a b : Int) : Bool := decide (a ≤ n) && decide (n ≤ b)
theorem inB_true {n a b : Int} (h1 : a ≤ n) (h2 : n ≤ b) : inB n a b = true := by unfold inB; simp [h1, h2]
theorem inB_false {n a b : Int} (h : n < a ∨ b < n) : inB n a b = false := by
  unfold inB
  rcases h with h | h
  · have : ¬ a ≤ n := by omega
    simp [this]
  · have : ¬ n ≤ b := by omega
    simp [this]
theorem inB_iff {n a b : Int} : inB n a b = true ↔ a ≤ n ∧ n ≤ b := by unfold inB; simp

end Go.Proofs.YtnandbammmcncaaGreat

namespace Go.Proofs.YtnandbammmcncaaGreat
open Go.RowKit

set_option maxHeartbeats 400000 in
theorem in1_yes (n a b : Int) (w : World) (h1 : a ≤ n) (h2 : n ≤ b) :
    Calls Tryz.prog 48 #[.int .i64 n, .int .i64 a, .int .i64 b] w (RetQ (.bool true) w) := by
  go_enter Tryz.func48, Tryz.ntmps48
  go_wp2
  go_ret
  exact ⟨rfl, 0, rfl⟩
set_option maxHeartbeats 400000 in
theorem in1_no (n a b : Int) (w : World) (h : n < a ∨ b < n) :
    Calls Tryz.prog 48 #[.int .i64 n, .int .i64 a, .int .i64 b] w (RetQ (.bool false) w) := by
  by_cases h1 : a ≤ n
  · have h2 : decide (n ≤ b) = false := by simp; omega
    clear h
    go_enter Tryz.func48, Tryz.ntmps48
    go_wp2
    go_ret
    exact ⟨rfl, 0, rfl⟩
  · have h2 : n < a := by omega
    clear h
    go_enter Tryz.func48, Tryz.ntmps48
    go_wp2
    go_ret
    exact ⟨rfl, 0, rfl⟩

theorem in1_any (n a b : Int) (w : World) :
    Calls Tryz.prog 48 #[.int .i64 n, .int .i64 a, .int .i64 b] w (RetQ (.bool (inB n a b)) w) := by
  by_cases h : a ≤ n ∧ n ≤ b
  · rw [inB_true h.1 h.2]
    exact in1_yes n a b w h.1 h.2
  · have h' : n < a ∨ b < n := by omega
    rw [inB_false h']
    exact in1_no n a b w h'

end Go.Proofs.YtnandbammmcncaaGreat

namespace Go.Proofs.YtnandbammmcncaaGreat
open Go.RowKit

set_option maxHeartbeats 400000 in
theorem in2_yes (n a b : Int) (w : World) (h1 : a ≤ n) (h2 : n ≤ b) :
    Calls Tryz.prog 57 #[.int .i64 n, .int .i64 a, .int .i64 b] w (RetQ (.bool true) w) := by
  go_enter Tryz.func57, Tryz.ntmps57
  go_wp2
  go_ret
  exact ⟨rfl, 0, rfl⟩
set_option maxHeartbeats 400000 in
theorem in2_no (n a b : Int) (w : World) (h : n < a ∨ b < n) :
    Calls Tryz.prog 57 #[.int .i64 n, .int .i64 a, .int .i64 b] w (RetQ (.bool false) w) := by
  by_cases h1 : a ≤ n
  · have h2 : decide (n ≤ b) = false := by simp; omega
    clear h
    go_enter Tryz.func57, Tryz.ntmps57
    go_wp2
    go_ret
    exact ⟨rfl, 0, rfl⟩
  · have h2 : n < a := by omega
    clear h
    go_enter Tryz.func57, Tryz.ntmps57
    go_wp2
    go_ret
    exact ⟨rfl, 0, rfl⟩


theorem in2_any (n a b : Int) (w : World) :
    Calls Tryz.prog 57 #[.int .i64 n, .int .i64 a, .int .i64 b] w (RetQ (.bool (inB n a b)) w) := by
  by_cases h : a ≤ n ∧ n ≤ b
  · rw [inB_true h.1 h.2]
    exact in2_yes n a b w h.1 h.2
  · have h' : n < a ∨ b < n := by omega
    rw [inB_false h']
    exact in2_no n a b w h'

end Go.Proofs.YtnandbammmcncaaGreat

namespace Go.Proofs.YtnandbammmcncaaGreat
open Go.RowKit

/-- The slice value v reads as the list xs, each element in 'size' cells that R relates to it; all of it below block B. -/
def SlR {α : Type} (R : World → Nat → List Value → α → Prop) (size : Nat) (w : World) (B : Nat) (v : Value) (xs : List α) : Prop :=
  ∃ (A : Option Addr) (c : Nat), v = .slice A xs.length c ∧ xs.length ≤ c ∧ c ≤ maxLen ∧
    (0 < xs.length → ∃ b off, A = some ⟨b, off, none⟩ ∧ b < B ∧
      ∀ (k : Nat) (x : α), xs[k]? = some x → ∃ us, us.length = size ∧ R w B us x ∧ ∀ (j : Nat) (u : Value), us[j]? = some u → w.cell? ⟨b, off + k * size + j, none⟩ = some u)

/-- Plain elements: the cells are a function of the element. -/
def Pl {α : Type} (f : α → List Value) : World → Nat → List Value → α → Prop := fun _ _ us x => us = f x

def Stays {α : Type} (R : World → Nat → List Value → α → Prop) : Prop := ∀ (w w' : World) (B B' : Nat) us x, R w B us x → Below B w w' → B ≤ B' → R w' B' us x

theorem Pl.stays {α : Type} (f : α → List Value) : Stays (Pl f) := fun _ _ _ _ _ _ h _ _ => h

theorem SlR.on {α : Type} {R : World → Nat → List Value → α → Prop} {size : Nat} {w w' : World} {B B' : Nat} {v : Value} {xs : List α} (h : SlR R size w B v xs) (hR : Stays R) (hb : Below B w w') (hB : B ≤ B') : SlR R size w' B' v xs := by
  obtain ⟨A, c, rfl, h1, h2, h3⟩ := h
  refine ⟨A, c, rfl, h1, h2, fun h0 => ?_⟩
  obtain ⟨b, off, rfl, hlt, hk⟩ := h3 h0
  refine ⟨b, off, rfl, by omega, fun k x hx => ?_⟩
  obtain ⟨us, hl, hr, hc⟩ := hk k x hx
  exact ⟨us, hl, hR _ _ _ _ _ _ hr hb hB, fun j u hu => (hb.cell (p := ⟨b, off + k * size + j, none⟩) hlt).trans (hc j u hu)⟩

/-- An empty list. -/
theorem SlR.nil {α : Type} (R : World → Nat → List Value → α → Prop) (size : Nat) (w : World) (B : Nat) (A : Option Addr) (c : Nat) (hc : c ≤ maxLen) : SlR R size w B (.slice A 0 c) ([] : List α) :=
  ⟨A, c, rfl, Nat.zero_le _, hc, fun h => absurd h (Nat.lt_irrefl 0)⟩

theorem flat_at {α β : Type} (f : α → List β) {size : Nat} (hf : ∀ x, (f x).length = size) : ∀ (xs : List α) (k : Nat) (x : α) (j : Nat) (u : β), xs[k]? = some x → (f x)[j]? = some u → j < size → (xs.flatMap f)[k * size + j]? = some u
  | [], k, x, j, u, hx, _, _ => by simp at hx
  | y :: ys, 0, x, j, u, hx, hu, hj => by
    simp only [List.getElem?_cons_zero, Option.some.injEq] at hx
    subst hx
    rw [List.flatMap_cons, List.getElem?_append_left (by rw [hf]; omega)]
    simpa using hu
  | y :: ys, k + 1, x, j, u, hx, hu, hj => by
    rw [List.flatMap_cons, List.getElem?_append_right (by rw [hf, Nat.succ_mul]; omega), hf, show (k + 1) * size + j - size = k * size + j by rw [Nat.succ_mul]; omega]
    exact flat_at f hf ys k x j u (by simpa using hx) hu hj

/-- What an append or a make has left: a row of the call's own. -/
theorem SlR.of_own {α : Type} (f : α → List Value) {size : Nat} {w : World} {base : Nat} {e : TypeId} {v : Value} {xs : List α} (hf : ∀ x, (f x).length = size) (h : w.ownsRow base e size v xs.length (xs.flatMap f)) : SlR (Pl f) size w w.heap.size v xs := by
  obtain ⟨hl, h | ⟨g, cap, cur, rfl, hg, hh, h1, h2, h3, h4⟩⟩ := h
  · obtain ⟨rfl, h0⟩ := h
    have : xs = [] := List.eq_nil_of_length_eq_zero h0
    subst this
    exact SlR.nil _ _ _ _ _ _ (Nat.zero_le _)
  · refine ⟨_, cap, rfl, h1, h2, fun h0 => ⟨g, 0, rfl, ?_, fun k x hx => ⟨f x, hf x, rfl, fun j u hu => ?_⟩⟩⟩
    · rcases Nat.lt_or_ge g w.heap.size with hlt | hge
      · exact hlt
      · rw [Array.getElem?_eq_none hge] at hh; cases hh
    · have hk : k < xs.length := (List.getElem?_eq_some_iff.1 hx).1
      have hj : j < size := by rw [← hf x]; exact (List.getElem?_eq_some_iff.1 hu).1
      have hflat := flat_at f hf xs k x j u hx hu hj
      have hlt : k * size + j < xs.length * size := by
        have : (k + 1) * size ≤ xs.length * size := Nat.mul_le_mul_right _ hk
        rw [Nat.succ_mul] at this
        omega
      have hcur : cur[k * size + j]? = some u := by
        rw [← Array.getElem?_toList, ← hflat, ← h4, List.getElem?_take, if_pos hlt]
      show w.cell? ⟨g, 0 + k * size + j, none⟩ = some u
      rw [Nat.zero_add]
      simp [World.cell?, hh, hcur]

end Go.Proofs.YtnandbammmcncaaGreat

namespace Go.Proofs.YtnandbammmcncaaGreat
open Go.Lib

def allLt (n : Nat) (f : Nat → Bool) : Bool := (List.range n).all f
theorem allLt_succ (n : Nat) (f : Nat → Bool) : allLt (n + 1) f = (allLt n f && f n) := by
  unfold allLt
  rw [List.range_succ, List.all_append]
  simp
theorem allLt_true {n : Nat} {f : Nat → Bool} : allLt n f = true ↔ ∀ k, k < n → f k = true := by
  unfold allLt
  simp
theorem allLt_false {n k : Nat} {f : Nat → Bool} (hk : k < n) (h : f k = false) : allLt n f = false := by
  rw [Bool.eq_false_iff]
  intro e
  rw [allLt_true] at e
  rw [e k hk] at h
  cases h

structure Edit where
  kind : Int
  id : Int
  old : ByteArray
  new : ByteArray

def editCells (e : Edit) : List Value := [.int .i64 e.kind, .int .i64 e.id, .string e.old, .string e.new]
def editV (e : Edit) : Value := .agg #[.int .i64 e.kind, .int .i64 e.id, .string e.old, .string e.new]

structure Deed where
  kind : Int
  member : Int
  trust : List Int
  title : ByteArray
  vote : Int
  patch : List Edit
  start : Int
  until_ : Int
  closes : Int

def sentCh (c : Nat) : Bool := (decide (97 ≤ c) && decide (c ≤ 122)) || (decide (48 ≤ c) && decide (c ≤ 57)) || decide (c = 32)
def byteAt (l : List UInt8) (k : Nat) : Nat := (l.getD k 0).toNat
def okSent (l : List UInt8) : Bool :=
  allLt l.length (fun k => sentCh (byteAt l k)) && decide (1 ≤ l.length) && decide (l.length ≤ 24) && decide (byteAt l 0 ≠ 32) && decide (byteAt l (l.length - 1) ≠ 32)

def okName (l : List UInt8) : Bool :=
  allLt l.length (fun k => decide (97 ≤ byteAt l k) && decide (byteAt l k ≤ 122)) && decide (1 ≤ l.length) && decide (l.length ≤ 10)

def okEdit (e : Edit) : Bool :=
  inB e.id 1 99 && ((decide (e.kind = 1) && decide (e.old.toList = []) && okSent e.new.toList) || (decide (e.kind = 2) && okSent e.old.toList && decide (e.new.toList = [])) ||
    (decide (e.kind = 3) && okSent e.old.toList && okSent e.new.toList && !(e.old.toList == e.new.toList)))

def idAt (p : List Edit) (k : Nat) : Int := ((p[k]?).map (·.id)).getD 0
def okPatch (p : List Edit) : Bool :=
  allLt p.length (fun k => ((p[k]?).map okEdit).getD true && (decide (k = 0) || decide (idAt p (k - 1) < idAt p k))) && decide (p.length ≤ 16)

def editText (e : Edit) : List UInt8 :=
  if e.kind = 1 then 43 :: (itoa e.id ++ 32 :: (e.new.toList ++ [10])) else if e.kind = 2 then 45 :: (itoa e.id ++ 32 :: (e.old.toList ++ [10])) else 126 :: (itoa e.id ++ 32 :: (e.old.toList ++ 124 :: (e.new.toList ++ [10])))
def patchText (p : List Edit) : List UInt8 := p.flatMap editText

def okTrust (l : List Int) (member n : Int) : Bool :=
  allLt l.length (fun k => inB (l.getD k 0) 0 (n - 1) && decide (l.getD k 0 ≠ member) && !((l.take k).contains (l.getD k 0))) && decide (l.length ≤ 4)

def okSpan (p : List Edit) (closes start until_ : Int) : Bool :=
  !p.isEmpty && okPatch p && inB closes 1 999 && decide (closes ≤ start) && decide (start < until_) && decide (until_ ≤ 1000)

def okDeed (d : Deed) : Bool :=
  let plain := d.patch.isEmpty && decide (d.start = 0) && decide (d.until_ = 0) && decide (d.closes = 0)
  (decide (d.kind = 1) && inB d.member 0 11 && okTrust d.trust d.member 12 && decide (d.title.toList = []) && decide (d.vote = 0) && plain) ||
  (decide (d.kind = 2) && inB d.member 0 11 && okName d.title.toList && inB d.vote 0 3 && d.trust.isEmpty && plain) ||
  (decide (d.kind = 3) && inB d.member 0 11 && okName d.title.toList && okSpan d.patch d.closes d.start d.until_ && d.trust.isEmpty && decide (d.vote = 0)) ||
  (decide (d.kind = 4) && decide (d.member = 0) && d.trust.isEmpty && decide (d.title.toList = []) && decide (d.vote = 0) && plain)

end Go.Proofs.YtnandbammmcncaaGreat

namespace Go.Proofs.YtnandbammmcncaaGreat
open Go.RowKit

theorem byteAt_of (s : ByteArray) (k : Nat) (h : k < s.size) : byteAt s.data.toList k = s[k].toNat := by
  unfold byteAt
  rw [List.getD_eq_getElem?_getD, List.getElem?_eq_getElem (by simpa using h)]
  rfl

theorem sentCh_iff (c : Nat) : sentCh c = true ↔ (97 ≤ c ∧ c ≤ 122) ∨ (48 ≤ c ∧ c ≤ 57) ∨ c = 32 := by
  unfold sentCh
  simp [or_assoc]
theorem sentCh_false {c : Nat} (h : ¬ ((97 ≤ c ∧ c ≤ 122) ∨ (48 ≤ c ∧ c ≤ 57) ∨ c = 32)) : sentCh c = false := by
  rw [Bool.eq_false_iff]
  exact fun e => h ((sentCh_iff c).1 e)
theorem okSent_bad (l : List UInt8) (k : Nat) (hk : k < l.length) (h : sentCh (byteAt l k) = false) : okSent l = false := by
  unfold okSent
  rw [allLt_false hk h]
  rfl

set_option maxHeartbeats 2000000 in
theorem sent2_any (s : ByteArray) (w : World) (hs : s.size ≤ maxLen) :
    Calls Tryz.prog 168 #[.string s] w (RetQ (.bool (okSent s.toList)) w) := by
  rw [ByteArray.toList_eq]
  unfold maxLen at hs
  go_enter Tryz.func168, Tryz.ntmps168
  go_wp2
  go_loop [3, 6] (fun _ i => ∃ k : Nat, k ≤ s.size ∧ i = .int .i64 (k : Int) ∧ allLt k (fun j => sentCh (byteAt s.data.toList j)) = true) (fun _ i => s.size - (intOf i).toNat)
  case atStart => exact ⟨0, Nat.zero_le _, rfl, rfl⟩
  case round =>
    obtain ⟨k, hk, rfl, hall⟩ := hrel
    have HA := Lib.hid hall
    clear hall
    by_cases hlt : k < s.size
    · have hc := byteAt_of s k hlt
      have HS := allLt_succ k (fun j => sentCh (byteAt s.data.toList j))
      rw [HA.out, Bool.true_and, hc] at HS
      have HS := Lib.hid HS
      have HC := Lib.hid hc
      clear hc
      have hh : (97 ≤ s[k].toNat ∧ s[k].toNat ≤ 122) ∨ (122 < s[k].toNat) ∨ (48 ≤ s[k].toNat ∧ s[k].toNat ≤ 57) ∨ (57 < s[k].toNat ∧ s[k].toNat < 97) ∨ s[k].toNat = 32 ∨ (s[k].toNat < 48 ∧ s[k].toNat ≠ 32) := by omega
      rcases hh with hh | hh | hh | hh | hh | hh
      · have a1 : ¬ (s[k].toNat : Int) < 97 := by omega
        have a2 : decide ((122 : Int) < (s[k].toNat : Int)) = false := by simp; omega
        have hsc : sentCh s[k].toNat = true := (sentCh_iff _).2 (by omega)
        have HSC := Lib.hid hsc
        clear hsc hh
        go_wp2
        go_round
        case rel => exact ⟨k + 1, by omega, by go_num, HS.out.trans HSC.out⟩
        case measure => simp [intOf]; omega
      · have a1 : ¬ (s[k].toNat : Int) < 97 := by omega
        have a2 : (122 : Int) < (s[k].toNat : Int) := by omega
        have a3 : ¬ (s[k].toNat : Int) < 48 := by omega
        have a4 : (57 : Int) < (s[k].toNat : Int) := by omega
        have a5 : ((s[k].toNat : Int) != 32) = true := by rw [bne_iff_ne]; omega
        have a6 : ((s[k].toNat : Int) == 32) = false := by rw [beq_eq_false_iff_ne]; omega
        have hsc : sentCh s[k].toNat = false := sentCh_false (by omega)
        have HSC := Lib.hid hsc
        clear hsc hh
        go_wp2
        go_ret
        exact ⟨by rw [okSent_bad s.data.toList k (by simpa using hlt) (by rw [HC.out]; exact HSC.out)]; rfl, 0, rfl⟩
      · have a1 : (s[k].toNat : Int) < 97 := by omega
        have a3 : ¬ (s[k].toNat : Int) < 48 := by omega
        have a4 : decide ((57 : Int) < (s[k].toNat : Int)) = false := by simp; omega
        have hsc : sentCh s[k].toNat = true := (sentCh_iff _).2 (by omega)
        have HSC := Lib.hid hsc
        clear hsc hh
        go_wp2
        go_round
        case rel => exact ⟨k + 1, by omega, by go_num, HS.out.trans HSC.out⟩
        case measure => simp [intOf]; omega
      · have a1 : (s[k].toNat : Int) < 97 := by omega
        have a3 : ¬ (s[k].toNat : Int) < 48 := by omega
        have a4 : (57 : Int) < (s[k].toNat : Int) := by omega
        have a5 : ((s[k].toNat : Int) != 32) = true := by rw [bne_iff_ne]; omega
        have a6 : ((s[k].toNat : Int) == 32) = false := by rw [beq_eq_false_iff_ne]; omega
        have hsc : sentCh s[k].toNat = false := sentCh_false (by omega)
        have HSC := Lib.hid hsc
        clear hsc hh
        go_wp2
        go_ret
        exact ⟨by rw [okSent_bad s.data.toList k (by simpa using hlt) (by rw [HC.out]; exact HSC.out)]; rfl, 0, rfl⟩
      · have a1 : (s[k].toNat : Int) < 97 := by omega
        have a3 : (s[k].toNat : Int) < 48 := by omega
        have a5 : ((s[k].toNat : Int) != 32) = false := by simp; omega
        have a6 : ((s[k].toNat : Int) == 32) = true := by simp; omega
        have hsc : sentCh s[k].toNat = true := (sentCh_iff _).2 (by omega)
        have HSC := Lib.hid hsc
        clear hsc hh
        go_wp2
        go_round
        case rel => exact ⟨k + 1, by omega, by go_num, HS.out.trans HSC.out⟩
        case measure => simp [intOf]; omega
      · have a1 : (s[k].toNat : Int) < 97 := by omega
        have a3 : (s[k].toNat : Int) < 48 := by omega
        have a5 : ((s[k].toNat : Int) != 32) = true := by rw [bne_iff_ne]; omega
        have a6 : ((s[k].toNat : Int) == 32) = false := by rw [beq_eq_false_iff_ne]; omega
        have hsc : sentCh s[k].toNat = false := sentCh_false (by omega)
        have HSC := Lib.hid hsc
        clear hsc hh
        go_wp2
        go_ret
        exact ⟨by rw [okSent_bad s.data.toList k (by simpa using hlt) (by rw [HC.out]; exact HSC.out)]; rfl, 0, rfl⟩
    · have hk' : k = s.size := by omega
      have hdec : okSent s.data.toList = (decide (1 ≤ s.size) && decide (s.size ≤ 24) && decide (byteAt s.data.toList 0 ≠ 32) && decide (byteAt s.data.toList (s.size - 1) ≠ 32)) := by
        unfold okSent
        have e : s.data.toList.length = s.size := by simp
        rw [e]
        have h := HA.out
        rw [hk'] at h
        rw [h, Bool.true_and]
      have HD := Lib.hid hdec
      clear hdec
      have hlt2 : decide ((k : Int) < (s.size : Int)) = false := by simp; omega
      by_cases h1 : 1 ≤ s.size
      · by_cases h2 : s.size ≤ 24
        · have b0 := byteAt_of s 0 (by omega)
          have b1 := byteAt_of s (s.size - 1) (by omega)
          have B0 := Lib.hid b0
          have B1 := Lib.hid b1
          have e1 : (1 : Int) ≤ (s.size : Int) := by omega
          have e2 : decide ((s.size : Int) ≤ 24) = true := by simp; omega
          clear b0 b1 hk' hlt2
          have hge : ¬ (k : Int) < (s.size : Int) := by omega
          by_cases h3 : s[0].toNat = 32
          · have e3 : ((s[0].toNat : Int) != 32) = false := by simp; omega
            go_wp2
            go_ret
            exact ⟨by rw [HD.out, B0.out]; simp [h3], 0, rfl⟩
          · have e3 : ((s[0].toNat : Int) != 32) = true := by simp; omega
            by_cases h4 : s[s.size - 1].toNat = 32
            · have e4 : ((s[s.size - 1].toNat : Int) != 32) = false := by simp; omega
              go_wp2
              go_ret
              exact ⟨by rw [HD.out, B1.out]; simp [h4], 0, rfl⟩
            · have e4 : ((s[s.size - 1].toNat : Int) != 32) = true := by simp; omega
              go_wp2
              go_ret
              exact ⟨by rw [HD.out, B0.out, B1.out]; simp [h1, h2, h3, h4], 0, rfl⟩
        · have e1 : (1 : Int) ≤ (s.size : Int) := by omega
          have e2 : decide ((s.size : Int) ≤ 24) = false := by simp; omega
          have hge : ¬ (k : Int) < (s.size : Int) := by omega
          clear hk' hlt2
          have H2 := Lib.hid h2
          clear h2
          go_wp2
          go_ret
          exact ⟨by rw [HD.out]; simp [H2.out], 0, rfl⟩
      · have e1 : decide ((1 : Int) ≤ (s.size : Int)) = false := by simp; omega
        have hge : ¬ (k : Int) < (s.size : Int) := by omega
        have H1 := Lib.hid h1
        clear hk' hlt2 h1
        go_wp2
        go_ret
        exact ⟨by rw [HD.out]; simp [H1.out], 0, rfl⟩
end Go.Proofs.YtnandbammmcncaaGreat

namespace Go.Proofs.YtnandbammmcncaaGreat
open Go.RowKit

theorem okEdit_add {e : Edit} (h : inB e.id 1 99 = true) (hk : e.kind = 1) : okEdit e = (decide (e.old.toList = []) && okSent e.new.toList) := by
  unfold okEdit
  rw [h]
  simp [hk]
theorem okEdit_drop {e : Edit} (h : inB e.id 1 99 = true) (hk : e.kind = 2) : okEdit e = (okSent e.old.toList && decide (e.new.toList = [])) := by
  unfold okEdit
  rw [h]
  simp [hk]
theorem okEdit_change {e : Edit} (h : inB e.id 1 99 = true) (hk : e.kind = 3) : okEdit e = (okSent e.old.toList && okSent e.new.toList && !(e.old.toList == e.new.toList)) := by
  unfold okEdit
  rw [h]
  simp [hk]
theorem okEdit_other {e : Edit} (h1 : e.kind ≠ 1) (h2 : e.kind ≠ 2) (h3 : e.kind ≠ 3) : okEdit e = false := by
  unfold okEdit
  simp [h1, h2, h3]
theorem okEdit_id {e : Edit} (h : inB e.id 1 99 = false) : okEdit e = false := by
  unfold okEdit
  rw [h]
  rfl

def SizeOk (e : Edit) : Prop := e.old.size ≤ maxLen ∧ e.new.size ≤ maxLen

set_option maxHeartbeats 2000000 in
theorem edit2_any (e : Edit) (w : World) (hs : SizeOk e) :
    Calls Tryz.prog 184 #[editV e] w (RetB (.bool (okEdit e)) w) := by
  obtain ⟨kind, id, old, new⟩ := e
  obtain ⟨hs1, hs2⟩ := hs
  have hs1 : old.size ≤ maxLen := hs1
  have hs2 : new.size ≤ maxLen := hs2
  have HS1 := Lib.hid hs1
  have HS2 := Lib.hid hs2
  clear hs1 hs2
  show Calls Tryz.prog 184 #[.agg #[.int .i64 kind, .int .i64 id, .string old, .string new]] w _
  have hb0 : ∀ k, Below w.heap.size w ((w.alloc (.cells #[.int .i64 kind, .int .i64 id, .string old, .string new] 162)).drewN k) := fun k => below_drewN ((Below.refl _ _).alloc (Nat.le_refl _) _) k
  by_cases hid : 1 ≤ id ∧ id ≤ 99
  · have hin : inB id 1 99 = true := inB_true hid.1 hid.2
    have HI := Lib.hid hin
    have b1 := hid.1
    have b2 := hid.2
    clear hin hid
    rcases (show kind = 1 ∨ kind = 2 ∨ kind = 3 ∨ (kind ≠ 1 ∧ kind ≠ 2 ∧ kind ≠ 3) by omega) with rfl | rfl | rfl | ⟨n1, n2, n3⟩
    · have HK := Lib.hid (okEdit_add (e := ⟨1, id, old, new⟩) HI.out rfl)
      by_cases ho : old.toList = []
      · go_enter Tryz.func184, Tryz.ntmps184
        go_wp2_with (fail)
        refine (in2_yes _ _ _ _ b1 b2).mono ?_
        rintro e w1 ⟨rfl, k, rfl⟩
        go_wp2_with (fail)
        refine (sent2_any new _ HS2.out).mono ?_
        rintro e w2 ⟨rfl, k2, rfl⟩
        go_wp2
        go_ret
        exact ⟨by rw [HK.out]; simp [ho], hb0 _⟩
      · go_enter Tryz.func184, Tryz.ntmps184
        go_wp2_with (fail)
        refine (in2_yes _ _ _ _ b1 b2).mono ?_
        rintro e w1 ⟨rfl, k, rfl⟩
        go_wp2
        go_ret
        exact ⟨by rw [HK.out]; simp [ho], hb0 _⟩
    · have HK := Lib.hid (okEdit_drop (e := ⟨2, id, old, new⟩) HI.out rfl)
      cases ho : okSent old.toList with
      | true =>
        have HO := Lib.hid ho
        clear ho
        by_cases hn : new.toList = []
        · go_enter Tryz.func184, Tryz.ntmps184
          go_wp2_with (fail)
          refine (in2_yes _ _ _ _ b1 b2).mono ?_
          rintro e w1 ⟨rfl, k, rfl⟩
          go_wp2_with (fail)
          refine (sent2_any old _ HS1.out).mono ?_
          rintro e w2 ⟨rfl, k2, rfl⟩
          rw [HO.out]
          go_wp2
          go_ret
          exact ⟨by rw [HK.out]; simp [HO.out, hn], hb0 _⟩
        · go_enter Tryz.func184, Tryz.ntmps184
          go_wp2_with (fail)
          refine (in2_yes _ _ _ _ b1 b2).mono ?_
          rintro e w1 ⟨rfl, k, rfl⟩
          go_wp2_with (fail)
          refine (sent2_any old _ HS1.out).mono ?_
          rintro e w2 ⟨rfl, k2, rfl⟩
          rw [HO.out]
          go_wp2
          go_ret
          exact ⟨by rw [HK.out]; simp [HO.out, hn], hb0 _⟩
      | false =>
        have HO := Lib.hid ho
        clear ho
        go_enter Tryz.func184, Tryz.ntmps184
        go_wp2_with (fail)
        refine (in2_yes _ _ _ _ b1 b2).mono ?_
        rintro e w1 ⟨rfl, k, rfl⟩
        go_wp2_with (fail)
        refine (sent2_any old _ HS1.out).mono ?_
        rintro e w2 ⟨rfl, k2, rfl⟩
        rw [HO.out]
        go_wp2
        go_ret
        exact ⟨by rw [HK.out]; simp [HO.out], hb0 _⟩
    · have HK := Lib.hid (okEdit_change (e := ⟨3, id, old, new⟩) HI.out rfl)
      cases ho : okSent old.toList with
      | true =>
        have HO := Lib.hid ho
        clear ho
        cases hn : okSent new.toList with
        | true =>
          have HN := Lib.hid hn
          clear hn
          cases he : (old.toList == new.toList) with
          | true =>
            go_enter Tryz.func184, Tryz.ntmps184
            go_wp2_with (fail)
            refine (in2_yes _ _ _ _ b1 b2).mono ?_
            rintro e w1 ⟨rfl, k, rfl⟩
            go_wp2_with (fail)
            refine (sent2_any old _ HS1.out).mono ?_
            rintro e w2 ⟨rfl, k2, rfl⟩
            rw [HO.out]
            go_wp2_with (fail)
            refine (sent2_any new _ HS2.out).mono ?_
            rintro e w2 ⟨rfl, k3, rfl⟩
            rw [HN.out]
            go_wp2
            go_ret
            exact ⟨by rw [HK.out]; simp [HO.out, HN.out, he], hb0 _⟩
          | false =>
            go_enter Tryz.func184, Tryz.ntmps184
            go_wp2_with (fail)
            refine (in2_yes _ _ _ _ b1 b2).mono ?_
            rintro e w1 ⟨rfl, k, rfl⟩
            go_wp2_with (fail)
            refine (sent2_any old _ HS1.out).mono ?_
            rintro e w2 ⟨rfl, k2, rfl⟩
            rw [HO.out]
            go_wp2_with (fail)
            refine (sent2_any new _ HS2.out).mono ?_
            rintro e w2 ⟨rfl, k3, rfl⟩
            rw [HN.out]
            go_wp2
            go_ret
            exact ⟨by rw [HK.out]; simp [HO.out, HN.out, he], hb0 _⟩
        | false =>
          have HN := Lib.hid hn
          clear hn
          go_enter Tryz.func184, Tryz.ntmps184
          go_wp2_with (fail)
          refine (in2_yes _ _ _ _ b1 b2).mono ?_
          rintro e w1 ⟨rfl, k, rfl⟩
          go_wp2_with (fail)
          refine (sent2_any old _ HS1.out).mono ?_
          rintro e w2 ⟨rfl, k2, rfl⟩
          rw [HO.out]
          go_wp2_with (fail)
          refine (sent2_any new _ HS2.out).mono ?_
          rintro e w2 ⟨rfl, k3, rfl⟩
          rw [HN.out]
          go_wp2
          go_ret
          exact ⟨by rw [HK.out]; simp [HO.out, HN.out], hb0 _⟩
      | false =>
        have HO := Lib.hid ho
        clear ho
        go_enter Tryz.func184, Tryz.ntmps184
        go_wp2_with (fail)
        refine (in2_yes _ _ _ _ b1 b2).mono ?_
        rintro e w1 ⟨rfl, k, rfl⟩
        go_wp2_with (fail)
        refine (sent2_any old _ HS1.out).mono ?_
        rintro e w2 ⟨rfl, k2, rfl⟩
        rw [HO.out]
        go_wp2
        go_ret
        exact ⟨by rw [HK.out]; simp [HO.out], hb0 _⟩
    · have HK := Lib.hid (okEdit_other (e := ⟨kind, id, old, new⟩) n1 n2 n3)
      have m1 : (kind == 1) = false := by simp; omega
      have m2 : (kind == 2) = false := by simp; omega
      have m3 : (kind == 3) = false := by simp; omega
      clear n1 n2 n3
      go_enter Tryz.func184, Tryz.ntmps184
      go_wp2_with (fail)
      refine (in2_yes _ _ _ _ b1 b2).mono ?_
      rintro e w1 ⟨rfl, k, rfl⟩
      go_wp2
      go_ret
      exact ⟨by rw [HK.out]; rfl, hb0 _⟩
  · have h' : id < 1 ∨ 99 < id := by omega
    have HK := Lib.hid (okEdit_id (e := ⟨kind, id, old, new⟩) (inB_false h'))
    have HN := Lib.hid h'
    clear h' hid
    go_enter Tryz.func184, Tryz.ntmps184
    go_wp2_with (fail)
    refine (in2_no _ _ _ _ HN.out).mono ?_
    rintro e w1 ⟨rfl, k, rfl⟩
    go_wp2
    go_ret
    exact ⟨by rw [HK.out]; rfl, hb0 _⟩

end Go.Proofs.YtnandbammmcncaaGreat

namespace Go.Proofs.YtnandbammmcncaaGreat
open Go.RowKit

def Edits (w : World) (B : Nat) (v : Value) (es : List Edit) : Prop := SlR (Pl editCells) 4 w B v es
def SizesOk (es : List Edit) : Prop := ∀ e, e ∈ es → SizeOk e

theorem edits_at {w : World} {B b off : Nat} {es : List Edit} (h : ∀ (k : Nat) (x : Edit), es[k]? = some x → ∃ us, us.length = 4 ∧ Pl editCells w B us x ∧ ∀ (j : Nat) (u : Value), us[j]? = some u → w.cell? ⟨b, off + k * 4 + j, none⟩ = some u) {k : Nat} {e : Edit} (hk : es[k]? = some e) :
    w.cell? ⟨b, off + k * 4, none⟩ = some (.int .i64 e.kind) ∧ w.cell? ⟨b, off + k * 4 + 1, none⟩ = some (.int .i64 e.id) ∧ w.cell? ⟨b, off + k * 4 + 2, none⟩ = some (.string e.old) ∧ w.cell? ⟨b, off + k * 4 + 3, none⟩ = some (.string e.new) := by
  obtain ⟨us, hl, hp, hc⟩ := h k e hk
  have hp : us = editCells e := hp
  subst hp
  exact ⟨hc 0 _ rfl, hc 1 _ rfl, hc 2 _ rfl, hc 3 _ rfl⟩

def patchAt (p : List Edit) (k : Nat) : Bool := ((p[k]?).map okEdit).getD true && (decide (k = 0) || decide (idAt p (k - 1) < idAt p k))
theorem okPatch_eq (p : List Edit) : okPatch p = (allLt p.length (patchAt p) && decide (p.length ≤ 16)) := rfl

theorem patchAt_bad {p : List Edit} {k : Nat} {e : Edit} (h : p[k]? = some e) (ho : okEdit e = false) : patchAt p k = false := by
  unfold patchAt
  rw [h]
  simp [ho]
theorem patchAt_zero {p : List Edit} {k : Nat} {e : Edit} (hk : k = 0) (h : p[k]? = some e) (ho : okEdit e = true) : patchAt p k = true := by
  subst hk
  unfold patchAt
  rw [h]
  simp [ho]
theorem patchAt_succ {p : List Edit} {m : Nat} {d e : Edit} (hd : p[m]? = some d) (h : p[m + 1]? = some e) (ho : okEdit e = true) : patchAt p (m + 1) = decide (d.id < e.id) := by
  unfold patchAt idAt
  rw [h]
  simp [ho, hd]
theorem okPatch_bad {p : List Edit} {k : Nat} (hk : k < p.length) (h : patchAt p k = false) : okPatch p = false := by
  rw [okPatch_eq, allLt_false hk h]
  rfl

theorem edit2_val (e : Edit) (w : World) (hs : SizeOk e) (r : Bool) (h : okEdit e = r) :
    Calls Tryz.prog 184 #[.agg #[.int .i64 e.kind, .int .i64 e.id, .string e.old, .string e.new]] w (RetB (.bool r) w) := by
  rw [← h]
  exact edit2_any e w hs

set_option maxHeartbeats 4000000 in
theorem patch2_any (es : List Edit) (w : World) (v : Value) (h : Edits w w.heap.size v es) (hs : SizesOk es) :
    Calls Tryz.prog 169 #[v] w (RetB (.bool (okPatch es)) w) := by
  obtain ⟨A, c, rfl, hc, hm, hel⟩ := h
  unfold maxLen at hm
  have hlm : es.length ≤ 9223372036854775807 := by omega
  have HEL := Lib.hid hel
  have HS := Lib.hid hs
  clear hel hs
  go_enter Tryz.func169, Tryz.ntmps169
  go_wp2
  go_loopw [3, 4, 7] (fun _ _ i wr => ∃ k : Nat, k ≤ es.length ∧ i = .int .i64 (k : Int) ∧ allLt k (patchAt es) = true ∧ Below w.heap.size w wr) (fun _ _ i _ => es.length - (intOf i).toNat)
  case atStart => exact ⟨0, Nat.zero_le _, rfl, rfl, Below.refl _ _⟩
  case round =>
    obtain ⟨k, hk, rfl, hall, hb⟩ := hrel
    have HA := Lib.hid hall
    clear hall
    by_cases hlt : k < es.length
    · obtain ⟨b, off, rfl, hblt, hcell⟩ := HEL.out (by omega)
      have hget : es[k]? = some es[k] := List.getElem?_eq_getElem hlt
      obtain ⟨c0, c1, c2, c3⟩ := edits_at hcell hget
      have x0 := (hb.cell (p := ⟨b, off + k * 4, none⟩) hblt).trans c0
      have x1 := (hb.cell (p := ⟨b, off + k * 4 + 1, none⟩) hblt).trans c1
      have x2 := (hb.cell (p := ⟨b, off + k * 4 + 2, none⟩) hblt).trans c2
      have x3 := (hb.cell (p := ⟨b, off + k * 4 + 3, none⟩) hblt).trans c3
      have HG := Lib.hid hget
      have HC := Lib.hid hcell
      have hso := HS.out es[k] (List.getElem_mem hlt)
      clear hget hcell c0 c1 c2 c3
      generalize es[k] = e at *
      cases hok : okEdit e with
      | false =>
        have HO := Lib.hid hok
        have HB := Lib.hid (okPatch_bad hlt (patchAt_bad HG.out hok))
        clear hok
        go_upto_region 4 with (fail)
        obtain ⟨W, hW⟩ : ∃ W : World, W = wr.alloc (.cells (editCells e).toArray 162) := ⟨_, rfl⟩
        change Code.wp _ _ _ _ (wr.alloc (.cells (editCells e).toArray 162))
        have bW : Below w.heap.size w W := by rw [hW]; exact hb.alloc hb.size _
        have y0 : W.cell? ⟨wr.heap.size, 0, none⟩ = some (.int .i64 e.kind) := by rw [hW]; simp [go_sem, editCells]
        have y1 : W.cell? ⟨wr.heap.size, 1, none⟩ = some (.int .i64 e.id) := by rw [hW]; simp [go_sem, editCells]
        have y2 : W.cell? ⟨wr.heap.size, 2, none⟩ = some (.string e.old) := by rw [hW]; simp [go_sem, editCells]
        have y3 : W.cell? ⟨wr.heap.size, 3, none⟩ = some (.string e.new) := by rw [hW]; simp [go_sem, editCells]
        rw [← hW]
        clear hW x0 x1 x2 x3
        have z0 := fun x : Aft W => x.cell y0
        have z1 := fun x : Aft W => x.cell y1
        have z2 := fun x : Aft W => x.cell y2
        have z3 := fun x : Aft W => x.cell y3
        clear y0 y1 y2 y3
        refine wp_region_aft (by kernel_rfl) (by kernel_rfl) ?_
        repeat (go_big_quiet_step ((go_at_call 184; exact aft_b (edit2_val e _ hso false HO.out))))
        refine wpQuiet_nil ?_
        rintro _ ⟨y, rfl⟩
        have bY := bW.trans (y.ok.mono bW.size)
        go_wp2
        go_ret
        exact ⟨by rw [HB.out]; rfl, bY⟩
      | true =>
        have HO := Lib.hid hok
        clear hok
        have HSU := allLt_succ k (patchAt es)
        rw [HA.out, Bool.true_and] at HSU
        have HSU := Lib.hid HSU
        by_cases hk0 : k = 0
        · have HN : Hid (allLt (k + 1) (patchAt es) = true) := HSU.out.trans (patchAt_zero hk0 HG.out HO.out)
          have hk1 : decide ((0 : Int) < (k : Int)) = false := by simp; omega
          have hk2 : decide (0 < k) = false := by simp; omega
          clear hk0
          go_upto_region 4 with (fail)
          obtain ⟨W, hW⟩ : ∃ W : World, W = wr.alloc (.cells (editCells e).toArray 162) := ⟨_, rfl⟩
          change Code.wp _ _ _ _ (wr.alloc (.cells (editCells e).toArray 162))
          have bW : Below w.heap.size w W := by rw [hW]; exact hb.alloc hb.size _
          have y0 : W.cell? ⟨wr.heap.size, 0, none⟩ = some (.int .i64 e.kind) := by rw [hW]; simp [go_sem, editCells]
          have y1 : W.cell? ⟨wr.heap.size, 1, none⟩ = some (.int .i64 e.id) := by rw [hW]; simp [go_sem, editCells]
          have y2 : W.cell? ⟨wr.heap.size, 2, none⟩ = some (.string e.old) := by rw [hW]; simp [go_sem, editCells]
          have y3 : W.cell? ⟨wr.heap.size, 3, none⟩ = some (.string e.new) := by rw [hW]; simp [go_sem, editCells]
          rw [← hW]
          clear hW x0 x1 x2 x3
          have z0 := fun x : Aft W => x.cell y0
          have z1 := fun x : Aft W => x.cell y1
          have z2 := fun x : Aft W => x.cell y2
          have z3 := fun x : Aft W => x.cell y3
          clear y0 y1 y2 y3
          refine wp_region_aft (by kernel_rfl) (by kernel_rfl) ?_
          repeat (go_big_quiet_step ((go_at_call 184; exact aft_b (edit2_val e _ hso true HO.out))))
          refine wpQuiet_nil ?_
          rintro _ ⟨y, rfl⟩
          have bY := bW.trans (y.ok.mono bW.size)
          go_wp2
          go_roundw
          case rel => exact ⟨k + 1, by omega, by go_num, HN.out, bY⟩
          case measure => simp [intOf]; omega
        · obtain ⟨m, rfl⟩ : ∃ m, k = m + 1 := ⟨k - 1, by omega⟩
          have hd : es[m]? = some (es[m]'(by omega)) := List.getElem?_eq_getElem (by omega)
          obtain ⟨_, d1, _, _⟩ := edits_at HC.out hd
          generalize (es[m]'(by omega)) = d at *
          have HP := Lib.hid (patchAt_succ hd HG.out HO.out)
          clear hd hk0
          by_cases hid : d.id < e.id
          · have HN : Hid (allLt (m + 1 + 1) (patchAt es) = true) := HSU.out.trans (HP.out.trans (decide_eq_true hid))
            have hid2 : ¬ (e.id ≤ d.id) := by omega
            go_upto_region 4 with (fail)
            obtain ⟨W, hW⟩ : ∃ W : World, W = wr.alloc (.cells (editCells e).toArray 162) := ⟨_, rfl⟩
            change Code.wp _ _ _ _ (wr.alloc (.cells (editCells e).toArray 162))
            have bW : Below w.heap.size w W := by rw [hW]; exact hb.alloc hb.size _
            have y0 : W.cell? ⟨wr.heap.size, 0, none⟩ = some (.int .i64 e.kind) := by rw [hW]; simp [go_sem, editCells]
            have y1 : W.cell? ⟨wr.heap.size, 1, none⟩ = some (.int .i64 e.id) := by rw [hW]; simp [go_sem, editCells]
            have y2 : W.cell? ⟨wr.heap.size, 2, none⟩ = some (.string e.old) := by rw [hW]; simp [go_sem, editCells]
            have y3 : W.cell? ⟨wr.heap.size, 3, none⟩ = some (.string e.new) := by rw [hW]; simp [go_sem, editCells]
            have y4 : W.cell? ⟨b, off + m * 4 + 1, none⟩ = some (.int .i64 d.id) := (bW.cell (p := ⟨b, off + m * 4 + 1, none⟩) hblt).trans d1
            have z4 := fun x : Aft W => x.cell y4
            clear d1 y4
            rw [← hW]
            clear hW x0 x1 x2 x3
            have z0 := fun x : Aft W => x.cell y0
            have z1 := fun x : Aft W => x.cell y1
            have z2 := fun x : Aft W => x.cell y2
            have z3 := fun x : Aft W => x.cell y3
            clear y0 y1 y2 y3
            refine wp_region_aft (by kernel_rfl) (by kernel_rfl) ?_
            repeat (go_big_quiet_step ((go_at_call 184; exact aft_b (edit2_val e _ hso true HO.out))))
            refine wpQuiet_nil ?_
            rintro _ ⟨y, rfl⟩
            have bY := bW.trans (y.ok.mono bW.size)
            go_wp2
            go_roundw
            case rel => exact ⟨(m + 1) + 1, by omega, by go_num, HN.out, bY⟩
            case measure => simp [intOf]; omega
          · have HB := Lib.hid (okPatch_bad hlt (HP.out.trans (decide_eq_false hid)))
            have hid2 : e.id ≤ d.id := by omega
            go_upto_region 4 with (fail)
            obtain ⟨W, hW⟩ : ∃ W : World, W = wr.alloc (.cells (editCells e).toArray 162) := ⟨_, rfl⟩
            change Code.wp _ _ _ _ (wr.alloc (.cells (editCells e).toArray 162))
            have bW : Below w.heap.size w W := by rw [hW]; exact hb.alloc hb.size _
            have y0 : W.cell? ⟨wr.heap.size, 0, none⟩ = some (.int .i64 e.kind) := by rw [hW]; simp [go_sem, editCells]
            have y1 : W.cell? ⟨wr.heap.size, 1, none⟩ = some (.int .i64 e.id) := by rw [hW]; simp [go_sem, editCells]
            have y2 : W.cell? ⟨wr.heap.size, 2, none⟩ = some (.string e.old) := by rw [hW]; simp [go_sem, editCells]
            have y3 : W.cell? ⟨wr.heap.size, 3, none⟩ = some (.string e.new) := by rw [hW]; simp [go_sem, editCells]
            have y4 : W.cell? ⟨b, off + m * 4 + 1, none⟩ = some (.int .i64 d.id) := (bW.cell (p := ⟨b, off + m * 4 + 1, none⟩) hblt).trans d1
            have z4 := fun x : Aft W => x.cell y4
            clear d1 y4
            rw [← hW]
            clear hW x0 x1 x2 x3
            have z0 := fun x : Aft W => x.cell y0
            have z1 := fun x : Aft W => x.cell y1
            have z2 := fun x : Aft W => x.cell y2
            have z3 := fun x : Aft W => x.cell y3
            clear y0 y1 y2 y3
            refine wp_region_aft (by kernel_rfl) (by kernel_rfl) ?_
            repeat (go_big_quiet_step ((go_at_call 184; exact aft_b (edit2_val e _ hso true HO.out))))
            refine wpQuiet_nil ?_
            rintro _ ⟨y, rfl⟩
            have bY := bW.trans (y.ok.mono bW.size)
            go_wp2
            go_ret
            exact ⟨by rw [HB.out]; rfl, bY⟩
    · have hk' : k = es.length := by omega
      have hP : okPatch es = decide (es.length ≤ 16) := by
        rw [okPatch_eq, ← hk', HA.out, Bool.true_and]
      have HP := Lib.hid hP
      have hge : ¬ (k : Int) < (es.length : Int) := by omega
      clear hP hk' hlt
      by_cases h16 : es.length ≤ 16
      · have e16 : decide ((es.length : Int) ≤ 16) = true := by simp; omega
        have H16 := Lib.hid h16
        clear h16
        go_wp2
        go_ret
        exact ⟨by rw [HP.out]; simp [H16.out], hb⟩
      · have e16 : decide ((es.length : Int) ≤ 16) = false := by simp; omega
        have H16 := Lib.hid h16
        clear h16
        go_wp2
        go_ret
        exact ⟨by rw [HP.out]; simp [H16.out], hb⟩
end Go.Proofs.YtnandbammmcncaaGreat

namespace Go.Proofs.YtnandbammmcncaaGreat
open Go.RowKit

def nameCh (c : Nat) : Bool := decide (97 ≤ c) && decide (c ≤ 122)
theorem okName_bad (l : List UInt8) (k : Nat) (hk : k < l.length) (h : nameCh (byteAt l k) = false) : okName l = false := by
  unfold okName
  have h' : (decide (97 ≤ byteAt l k) && decide (byteAt l k ≤ 122)) = false := h
  rw [allLt_false (f := fun k => decide (97 ≤ byteAt l k) && decide (byteAt l k ≤ 122)) hk h']
  rfl

set_option maxHeartbeats 2000000 in
theorem name2_any (s : ByteArray) (w : World) (hs : s.size ≤ maxLen) :
    Calls Tryz.prog 142 #[.string s] w (RetQ (.bool (okName s.toList)) w) := by
  rw [ByteArray.toList_eq]
  unfold maxLen at hs
  go_enter Tryz.func142, Tryz.ntmps142
  go_wp2
  go_loop [3, 6] (fun _ i => ∃ k : Nat, k ≤ s.size ∧ i = .int .i64 (k : Int) ∧ allLt k (fun j => nameCh (byteAt s.data.toList j)) = true) (fun _ i => s.size - (intOf i).toNat)
  case atStart => exact ⟨0, Nat.zero_le _, rfl, rfl⟩
  case round =>
    obtain ⟨k, hk, rfl, hall⟩ := hrel
    have HA := Lib.hid hall
    clear hall
    by_cases hlt : k < s.size
    · have hc := byteAt_of s k hlt
      have HS := allLt_succ k (fun j => nameCh (byteAt s.data.toList j))
      rw [HA.out, Bool.true_and, hc] at HS
      have HS := Lib.hid HS
      have HC := Lib.hid hc
      clear hc
      have hh : (97 ≤ s[k].toNat ∧ s[k].toNat ≤ 122) ∨ (122 < s[k].toNat) ∨ s[k].toNat < 97 := by omega
      rcases hh with hh | hh | hh
      · have a1 : ¬ (s[k].toNat : Int) < 97 := by omega
        have a2 : decide ((122 : Int) < (s[k].toNat : Int)) = false := by simp; omega
        have hsc : nameCh s[k].toNat = true := by unfold nameCh; simp [hh.1, hh.2]
        have HSC := Lib.hid hsc
        clear hsc hh
        go_wp2
        go_round
        case rel => exact ⟨k + 1, by omega, by go_num, HS.out.trans HSC.out⟩
        case measure => simp [intOf]; omega
      · have a1 : ¬ (s[k].toNat : Int) < 97 := by omega
        have a2 : decide ((122 : Int) < (s[k].toNat : Int)) = true := by simp; omega
        have hsc : nameCh s[k].toNat = false := by unfold nameCh; simp; omega
        have HB := Lib.hid (okName_bad s.data.toList k (by simpa using hlt) (by rw [HC.out]; exact hsc))
        clear hsc hh
        go_wp2
        go_ret
        exact ⟨by rw [HB.out]; rfl, 0, rfl⟩
      · have a1 : (s[k].toNat : Int) < 97 := by omega
        have hsc : nameCh s[k].toNat = false := by unfold nameCh; simp; omega
        have HB := Lib.hid (okName_bad s.data.toList k (by simpa using hlt) (by rw [HC.out]; exact hsc))
        clear hsc hh
        go_wp2
        go_ret
        exact ⟨by rw [HB.out]; rfl, 0, rfl⟩
    · have hk' : k = s.size := by omega
      have hdec : okName s.data.toList = (decide (1 ≤ s.size) && decide (s.size ≤ 10)) := by
        unfold okName
        have e : s.data.toList.length = s.size := by simp
        rw [e]
        have h := HA.out
        rw [hk'] at h
        have h' : allLt s.size (fun k => decide (97 ≤ byteAt s.data.toList k) && decide (byteAt s.data.toList k ≤ 122)) = true := h
        rw [h', Bool.true_and]
      have HD := Lib.hid hdec
      have hge : ¬ (k : Int) < (s.size : Int) := by omega
      clear hdec hk' hlt
      by_cases h1 : 1 ≤ s.size
      · have e1 : decide ((1 : Int) ≤ (s.size : Int)) = true := by simp; omega
        by_cases h2 : s.size ≤ 10
        · have e2 : decide ((s.size : Int) ≤ 10) = true := by simp; omega
          have H1 := Lib.hid h1
          have H2 := Lib.hid h2
          clear h1 h2
          go_wp2
          go_ret
          exact ⟨by rw [HD.out]; simp [H1.out, H2.out], 0, rfl⟩
        · have e2 : decide ((s.size : Int) ≤ 10) = false := by simp; omega
          have H2 := Lib.hid h2
          clear h1 h2
          go_wp2
          go_ret
          exact ⟨by rw [HD.out]; simp [H2.out], 0, rfl⟩
      · have e1 : decide ((1 : Int) ≤ (s.size : Int)) = false := by simp; omega
        have H1 := Lib.hid h1
        clear h1
        go_wp2
        go_ret
        exact ⟨by rw [HD.out]; simp [H1.out], 0, rfl⟩

set_option maxHeartbeats 2000000 in
theorem name1_any (s : ByteArray) (w : World) (hs : s.size ≤ maxLen) :
    Calls Tryz.prog 127 #[.string s] w (RetQ (.bool (okName s.toList)) w) := by
  rw [ByteArray.toList_eq]
  unfold maxLen at hs
  go_enter Tryz.func127, Tryz.ntmps127
  go_wp2
  go_loop [3] (fun i => ∃ k : Nat, k ≤ s.size ∧ i = .int .i64 (k : Int) ∧ allLt k (fun j => nameCh (byteAt s.data.toList j)) = true) (fun i => s.size - (intOf i).toNat)
  case atStart => exact ⟨0, Nat.zero_le _, rfl, rfl⟩
  case round =>
    obtain ⟨k, hk, rfl, hall⟩ := hrel
    have HA := Lib.hid hall
    clear hall
    by_cases hlt : k < s.size
    · have hc := byteAt_of s k hlt
      have HS := allLt_succ k (fun j => nameCh (byteAt s.data.toList j))
      rw [HA.out, Bool.true_and, hc] at HS
      have HS := Lib.hid HS
      have HC := Lib.hid hc
      clear hc
      have hh : (97 ≤ s[k].toNat ∧ s[k].toNat ≤ 122) ∨ (122 < s[k].toNat) ∨ s[k].toNat < 97 := by omega
      rcases hh with hh | hh | hh
      · have a1 : ¬ (s[k].toNat : Int) < 97 := by omega
        have a2 : decide ((122 : Int) < (s[k].toNat : Int)) = false := by simp; omega
        have hsc : nameCh s[k].toNat = true := by unfold nameCh; simp [hh.1, hh.2]
        have HSC := Lib.hid hsc
        clear hsc hh
        go_wp2
        go_round
        case rel => exact ⟨k + 1, by omega, by go_num, HS.out.trans HSC.out⟩
        case measure => simp [intOf]; omega
      · have a1 : ¬ (s[k].toNat : Int) < 97 := by omega
        have a2 : decide ((122 : Int) < (s[k].toNat : Int)) = true := by simp; omega
        have hsc : nameCh s[k].toNat = false := by unfold nameCh; simp; omega
        have HB := Lib.hid (okName_bad s.data.toList k (by simpa using hlt) (by rw [HC.out]; exact hsc))
        clear hsc hh
        go_wp2
        go_ret
        exact ⟨by rw [HB.out]; rfl, 0, rfl⟩
      · have a1 : (s[k].toNat : Int) < 97 := by omega
        have hsc : nameCh s[k].toNat = false := by unfold nameCh; simp; omega
        have HB := Lib.hid (okName_bad s.data.toList k (by simpa using hlt) (by rw [HC.out]; exact hsc))
        clear hsc hh
        go_wp2
        go_ret
        exact ⟨by rw [HB.out]; rfl, 0, rfl⟩
    · have hk' : k = s.size := by omega
      have hdec : okName s.data.toList = (decide (1 ≤ s.size) && decide (s.size ≤ 10)) := by
        unfold okName
        have e : s.data.toList.length = s.size := by simp
        rw [e]
        have h := HA.out
        rw [hk'] at h
        have h' : allLt s.size (fun k => decide (97 ≤ byteAt s.data.toList k) && decide (byteAt s.data.toList k ≤ 122)) = true := h
        rw [h', Bool.true_and]
      have HD := Lib.hid hdec
      have hge : ¬ (k : Int) < (s.size : Int) := by omega
      clear hdec hk' hlt
      by_cases h1 : 1 ≤ s.size
      · have e1 : decide ((1 : Int) ≤ (s.size : Int)) = true := by simp; omega
        by_cases h2 : s.size ≤ 10
        · have e2 : decide ((s.size : Int) ≤ 10) = true := by simp; omega
          have H1 := Lib.hid h1
          have H2 := Lib.hid h2
          clear h1 h2
          go_wp2
          go_ret
          exact ⟨by rw [HD.out]; simp [H1.out, H2.out], 0, rfl⟩
        · have e2 : decide ((s.size : Int) ≤ 10) = false := by simp; omega
          have H2 := Lib.hid h2
          clear h1 h2
          go_wp2
          go_ret
          exact ⟨by rw [HD.out]; simp [H2.out], 0, rfl⟩
      · have e1 : decide ((1 : Int) ≤ (s.size : Int)) = false := by simp; omega
        have H1 := Lib.hid h1
        clear h1
        go_wp2
        go_ret
        exact ⟨by rw [HD.out]; simp [H1.out], 0, rfl⟩

theorem vote2_any (n : Int) (w : World) : Calls Tryz.prog 143 #[.int .i64 n] w (RetQ (.bool (inB n 0 3)) w) := by
  have H := Lib.hid (in2_any n 0 3 w)
  go_enter Tryz.func143, Tryz.ntmps143
  go_wp2_with (fail)
  refine H.out.mono ?_
  rintro e w1 ⟨rfl, k, rfl⟩
  go_wp2
  go_ret
  exact ⟨rfl, k, rfl⟩

theorem any2_any (n : Int) (w : World) : Calls Tryz.prog 141 #[.int .i64 n] w (RetQ (.bool (inB n 0 11)) w) := by
  have H := Lib.hid (in2_any n 0 11 w)
  go_enter Tryz.func141, Tryz.ntmps141
  go_wp2_with (fail)
  refine H.out.mono ?_
  rintro e w1 ⟨rfl, k, rfl⟩
  go_wp2
  go_ret
  exact ⟨rfl, k, rfl⟩

set_option maxHeartbeats 1000000 in
theorem prop2_any (es : List Edit) (w : World) (v : Value) (closes start until_ : Int) (h : Edits w w.heap.size v es) (hs : SizesOk es) :
    Calls Tryz.prog 144 #[v, .int .i64 closes, .int .i64 start, .int .i64 until_] w (RetB (.bool (okSpan es closes start until_)) w) := by
  have HP := Lib.hid (patch2_any es w v h hs)
  have hv : ∃ A c, v = .slice A es.length c := by
    obtain ⟨A, c, hv, _⟩ := h
    exact ⟨A, c, hv⟩
  obtain ⟨A, c, rfl⟩ := hv
  clear h hs
  cases es with
  | nil =>
    go_enter Tryz.func144, Tryz.ntmps144
    go_wp2
    go_ret
    exact ⟨rfl, Below.refl _ _⟩
  | cons d ds =>
    have hl : decide ((0 : Int) < ((d :: ds).length : Int)) = true := by simp
    have hl2 : decide (0 < (d :: ds).length) = true := by simp
    generalize hes : d :: ds = es at *
    have hne : es.isEmpty = false := by rw [← hes]; rfl
    have HNE := Lib.hid hne
    clear hne hes
    go_enter Tryz.func144, Tryz.ntmps144
    go_wp2_with (fail)
    refine HP.out.mono ?_
    rintro e w1 ⟨rfl, hb⟩
    cases hp : okPatch es with
    | false =>
      have HQ := Lib.hid hp
      clear hp
      go_wp2
      go_ret
      have hf : okSpan es closes start until_ = false := by unfold okSpan; rw [HQ.out]; simp
      exact ⟨by rw [hf]; rfl, hb⟩
    | true =>
      have HQ := Lib.hid hp
      clear hp
      go_wp2_with (fail)
      refine (in2_any closes 1 999 w1).mono ?_
      rintro e w2 ⟨rfl, k, rfl⟩
      cases hi : inB closes 1 999 with
      | false =>
        have HI := Lib.hid hi
        clear hi
        go_wp2
        go_ret
        have hf : okSpan es closes start until_ = false := by unfold okSpan; rw [HI.out]; simp
        exact ⟨by rw [hf]; rfl, below_drewN hb k⟩
      | true =>
        have HI := Lib.hid hi
        clear hi
        have hfin : okSpan es closes start until_ = (decide (closes ≤ start) && decide (start < until_) && decide (until_ ≤ 1000)) := by
          unfold okSpan
          rw [HQ.out, HI.out, HNE.out]
          rfl
        have HF := Lib.hid hfin
        clear hfin
        by_cases c1 : closes ≤ start
        · have d1 : decide (closes ≤ start) = true := by simp; omega
          by_cases c2 : start < until_
          · have d2 : decide (start < until_) = true := by simp; omega
            have K1 := Lib.hid c1
            have K2 := Lib.hid c2
            clear c1 c2
            go_wp2
            go_ret
            exact ⟨by rw [HF.out, d1, d2]; simp, below_drewN hb k⟩
          · have d2 : decide (start < until_) = false := by simp; omega
            have K2 := Lib.hid c2
            clear c1 c2
            go_wp2
            go_ret
            exact ⟨by rw [HF.out, d2]; simp, below_drewN hb k⟩
        · have d1 : decide (closes ≤ start) = false := by simp; omega
          have K1 := Lib.hid c1
          clear c1
          go_wp2
          go_ret
          exact ⟨by rw [HF.out, d1]; simp, below_drewN hb k⟩

end Go.Proofs.YtnandbammmcncaaGreat

namespace Go.Proofs.YtnandbammmcncaaGreat
open Go.RowKit

def intCells (z : Int) : List Value := [.int .i64 z]
def Ints (w : World) (B : Nat) (v : Value) (zs : List Int) : Prop := SlR (Pl intCells) 1 w B v zs

theorem ints_at {w : World} {B b off : Nat} {zs : List Int} (h : ∀ (k : Nat) (x : Int), zs[k]? = some x → ∃ us, us.length = 1 ∧ Pl intCells w B us x ∧ ∀ (j : Nat) (u : Value), us[j]? = some u → w.cell? ⟨b, off + k * 1 + j, none⟩ = some u) {k : Nat} {z : Int} (hk : zs[k]? = some z) :
    w.cell? ⟨b, off + k, none⟩ = some (.int .i64 z) := by
  obtain ⟨us, hl, hp, hc⟩ := h k z hk
  have hp : us = intCells z := hp
  subst hp
  have := hc 0 _ rfl
  simpa using this

theorem SlR.take {α : Type} {R : World → Nat → List Value → α → Prop} {size : Nat} {w : World} {B : Nat} {A : Option Addr} {n c : Nat} {xs : List α} (h : SlR R size w B (.slice A n c) xs) (k : Nat) (hk : k ≤ xs.length) : SlR R size w B (.slice A k c) (xs.take k) := by
  obtain ⟨A', c', hv, h1, h2, h3⟩ := h
  injection hv with e1 e2 e3
  subst e1 e3
  have hl : (xs.take k).length = k := by rw [List.length_take]; omega
  refine ⟨A, c, by rw [hl], by omega, h2, fun h0 => ?_⟩
  obtain ⟨b, off, hA, hb, hc⟩ := h3 (by omega)
  refine ⟨b, off, hA, hb, fun j x hx => hc j x ?_⟩
  rw [List.getElem?_take] at hx
  split at hx
  · exact hx
  · cases hx

def IndexPost (w : World) (zs : List Int) (x : Int) (e : Ending) (w' : World) : Prop :=
  ∃ n : Int, e = .returned (.int .i64 n) ∧ w' = w ∧ (0 ≤ n ↔ x ∈ zs) ∧ -1 ≤ n ∧ n ≤ 9223372036854775807 ∧ (0 ≤ n → zs[n.toNat]? = some x ∧ x ∉ zs.take n.toNat)

set_option maxHeartbeats 1000000 in
theorem index_any (zs : List Int) (x : Int) (w : World) (v : Value) (h : Ints w w.heap.size v zs) :
    Calls Tryz.prog 178 #[v, .int .i64 x] w (IndexPost w zs x) := by
  obtain ⟨A, c, rfl, hc, hm, hel⟩ := h
  unfold maxLen at hm
  have hlm : zs.length ≤ 9223372036854775807 := by omega
  have HEL := Lib.hid hel
  clear hel
  go_enter Tryz.func178, Tryz.ntmps178
  go_wp2
  go_loop [5, 8] (fun _ i => ∃ k : Nat, k ≤ zs.length ∧ i = .int .i64 (k : Int) ∧ x ∉ zs.take k) (fun _ i => zs.length - (intOf i).toNat)
  case atStart => exact ⟨0, Nat.zero_le _, rfl, by simp⟩
  case round =>
    obtain ⟨k, hk, rfl, hno⟩ := hrel
    have HN := Lib.hid hno
    clear hno
    by_cases hlt : k < zs.length
    · obtain ⟨b, off, rfl, hblt, hcell⟩ := HEL.out (by omega)
      have hget : zs[k]? = some zs[k] := List.getElem?_eq_getElem hlt
      have x0 := ints_at hcell hget
      have hts : zs.take (k + 1) = zs.take k ++ [zs[k]] := by rw [List.take_succ_eq_append_getElem hlt]
      have HG := Lib.hid hget
      have HT := Lib.hid hts
      clear hget hcell hts
      generalize zs[k] = z at *
      by_cases hz : x = z
      · have hz1 : (x == z) = true := by simp [hz]
        have HZ := Lib.hid hz
        clear hz
        go_wp2
        go_ret
        refine ⟨k, rfl, rfl, ⟨fun _ => ?_, fun _ => by omega⟩, by omega, by omega, fun _ => ?_⟩
        · rw [HZ.out]; exact List.mem_of_getElem? HG.out
        · rw [show ((k : Int)).toNat = k by omega]
          exact ⟨by rw [HZ.out]; exact HG.out, HN.out⟩
      · have hz1 : (x == z) = false := by simp [hz]
        have HZ := Lib.hid hz
        clear hz
        go_wp2
        go_round
        case rel => exact ⟨k + 1, by omega, by go_num, by rw [HT.out, List.mem_append, List.mem_singleton]; rintro (h | h); exact HN.out h; exact HZ.out h⟩
        case measure => simp [intOf]; omega
    · have hk' : k = zs.length := by omega
      have hge : ¬ (k : Int) < (zs.length : Int) := by omega
      have HK := Lib.hid hk'
      clear hk' hlt
      go_wp2
      go_ret
      refine ⟨-1, rfl, rfl, ⟨fun h => by omega, fun h => ?_⟩, by omega, by omega, fun h => by omega⟩
      have := HN.out
      rw [HK.out, List.take_length] at this
      exact absurd h this

set_option maxHeartbeats 1000000 in
theorem contains_any (zs : List Int) (x : Int) (w : World) (v : Value) (h : Ints w w.heap.size v zs) :
    Calls Tryz.prog 160 #[v, .int .i64 x] w (RetQ (.bool (zs.contains x)) w) := by
  have H := Lib.hid (index_any zs x w v h)
  clear h
  go_enter Tryz.func160, Tryz.ntmps160
  go_wp2_with (fail)
  refine H.out.mono ?_
  rintro e w1 ⟨n, rfl, rfl, hiff, h1, h2, _⟩
  by_cases hn : 0 ≤ n
  · have hd : decide (0 ≤ n) = true := by simp; omega
    have hc : zs.contains x = true := by rw [List.contains_iff_mem]; exact hiff.1 hn
    have HC := Lib.hid hc
    clear hiff hn hc
    go_wp2
    go_ret
    exact ⟨by rw [HC.out]; rfl, 0, rfl⟩
  · have hd : decide (0 ≤ n) = false := by simp; omega
    have hc : zs.contains x = false := by rw [Bool.eq_false_iff, ne_eq, List.contains_iff_mem]; exact fun h => hn (hiff.2 h)
    have HC := Lib.hid hc
    clear hiff hn hc
    go_wp2
    go_ret
    exact ⟨by rw [HC.out]; rfl, 0, rfl⟩

def trustAt (l : List Int) (member n : Int) (k : Nat) : Bool := inB (l.getD k 0) 0 (n - 1) && decide (l.getD k 0 ≠ member) && !((l.take k).contains (l.getD k 0))
theorem okTrust_eq (l : List Int) (member n : Int) : okTrust l member n = (allLt l.length (trustAt l member n) && decide (l.length ≤ 4)) := rfl
theorem okTrust_bad {l : List Int} {member n : Int} {k : Nat} (hk : k < l.length) (h : trustAt l member n k = false) : okTrust l member n = false := by
  rw [okTrust_eq, allLt_false hk h]
  rfl
theorem trustAt_eq {l : List Int} {member n : Int} {k : Nat} {z : Int} (hz : l[k]? = some z) : trustAt l member n k = (inB z 0 (n - 1) && decide (z ≠ member) && !((l.take k).contains z)) := by
  have e : l.getD k 0 = z := by rw [List.getD_eq_getElem?_getD, hz]; rfl
  unfold trustAt
  rw [e]

set_option maxHeartbeats 2000000 in
theorem trust2_any (zs : List Int) (member n : Int) (w : World) (v : Value) (h : Ints w w.heap.size v zs) (hn1 : -1000 ≤ n) (hn2 : n ≤ 1000) :
    Calls Tryz.prog 134 #[v, .int .i64 member, .int .i64 n] w (RetQ (.bool (okTrust zs member n)) w) := by
  have HI := Lib.hid h
  obtain ⟨A, c, rfl, hc, hm, hel⟩ := h
  unfold maxLen at hm
  have hlm : zs.length ≤ 9223372036854775807 := by omega
  have HEL := Lib.hid hel
  clear hel
  go_enter Tryz.func134, Tryz.ntmps134
  go_wp2
  go_loopw [7, 8, 11] (fun _ _ i wr => ∃ k d : Nat, k ≤ zs.length ∧ i = .int .i64 (k : Int) ∧ allLt k (trustAt zs member n) = true ∧ wr = w.drewN d) (fun _ _ i _ => zs.length - (intOf i).toNat)
  case atStart => exact ⟨0, 0, Nat.zero_le _, rfl, rfl, rfl⟩
  case round =>
    obtain ⟨k, d, hk, rfl, hall, rfl⟩ := hrel
    have HA := Lib.hid hall
    clear hall
    by_cases hlt : k < zs.length
    · obtain ⟨b, off, hA, hblt, hcell⟩ := HEL.out (by omega)
      subst hA
      have hget : zs[k]? = some zs[k] := List.getElem?_eq_getElem hlt
      have x0 := ints_at hcell hget
      have HG := Lib.hid hget
      have HT := Lib.hid (trustAt_eq (member := member) (n := n) hget)
      have HSU := allLt_succ k (trustAt zs member n)
      rw [HA.out, Bool.true_and] at HSU
      have HSU := Lib.hid HSU
      have HSub : Hid (Ints w w.heap.size (.slice (some ⟨b, off, none⟩) k c) (zs.take k)) := SlR.take HI.out k hk
      clear hget hcell
      generalize zs[k] = z at *
      go_wp2_with (fail)
      refine (in2_any z 0 (n - 1) _).mono ?_
      rintro e w1 ⟨rfl, d1, rfl⟩
      cases h1 : inB z 0 (n - 1) with
      | false =>
        have HB := Lib.hid (okTrust_bad hlt (HT.out.trans (by rw [h1]; rfl)))
        clear h1
        go_wp2
        go_ret
        exact ⟨by rw [HB.out]; rfl, _, rfl⟩
      | true =>
        have H1 := Lib.hid h1
        clear h1
        by_cases hz : z = member
        · have hz1 : (z == member) = true := by simp [hz]
          have HB := Lib.hid (okTrust_bad hlt (HT.out.trans (by rw [H1.out]; simp [hz])))
          clear hz
          go_wp2
          go_ret
          exact ⟨by rw [HB.out]; rfl, _, rfl⟩
        · have hz1 : (z == member) = false := by simp [hz]
          have HZ := Lib.hid hz
          clear hz
          have hk1 : (k : Int) ≤ (c : Int) := by omega
          have hk0 : (0 : Int) ≤ (k : Int) := by omega
          go_wp2_with (fail)
          refine (contains_any (zs.take k) z _ _ (HSub.out.on (Pl.stays _) (below_drewN (Below.refl _ _) _) (Nat.le_refl _))).mono ?_
          rintro e w2 ⟨rfl, d2, rfl⟩
          cases h2 : (zs.take k).contains z with
          | true =>
            have HB := Lib.hid (okTrust_bad hlt (HT.out.trans (by rw [h2]; simp)))
            clear h2
            go_wp2
            go_ret
            exact ⟨by rw [HB.out]; rfl, _, rfl⟩
          | false =>
            have HN : Hid (allLt (k + 1) (trustAt zs member n) = true) := HSU.out.trans (HT.out.trans (by rw [H1.out, h2]; simp [HZ.out]))
            clear h2
            go_wp2
            go_roundw
            case rel => exact ⟨k + 1, _, by omega, by go_num, HN.out, rfl⟩
            case measure => simp [intOf]; omega
    · have hk' : k = zs.length := by omega
      have hP : okTrust zs member n = decide (zs.length ≤ 4) := by
        rw [okTrust_eq, ← hk', HA.out, Bool.true_and]
      have HP := Lib.hid hP
      have hge : ¬ (k : Int) < (zs.length : Int) := by omega
      clear hP hk' hlt
      by_cases h4 : zs.length ≤ 4
      · have e4 : decide ((zs.length : Int) ≤ 4) = true := by simp; omega
        have H4 := Lib.hid h4
        clear h4
        go_wp2
        go_ret
        exact ⟨by rw [HP.out]; simp [H4.out], _, rfl⟩
      · have e4 : decide ((zs.length : Int) ≤ 4) = false := by simp; omega
        have H4 := Lib.hid h4
        clear h4
        go_wp2
        go_ret
        exact ⟨by rw [HP.out]; simp [H4.out], _, rfl⟩

end Go.Proofs.YtnandbammmcncaaGreat

namespace Go.Proofs.YtnandbammmcncaaGreat
open Go.RowKit

def plainB (d : Deed) : Bool := d.patch.isEmpty && decide (d.start = 0) && decide (d.until_ = 0) && decide (d.closes = 0)
theorem okDeed_1 {d : Deed} (hk : d.kind = 1) : okDeed d = (inB d.member 0 11 && okTrust d.trust d.member 12 && decide (d.title.toList = []) && decide (d.vote = 0) && plainB d) := by
  unfold okDeed plainB
  simp [hk]
theorem okDeed_2 {d : Deed} (hk : d.kind = 2) : okDeed d = (inB d.member 0 11 && okName d.title.toList && inB d.vote 0 3 && d.trust.isEmpty && plainB d) := by
  unfold okDeed plainB
  simp [hk]
theorem okDeed_3 {d : Deed} (hk : d.kind = 3) : okDeed d = (inB d.member 0 11 && okName d.title.toList && okSpan d.patch d.closes d.start d.until_ && d.trust.isEmpty && decide (d.vote = 0)) := by
  unfold okDeed
  simp [hk]
theorem okDeed_4 {d : Deed} (hk : d.kind = 4) : okDeed d = (decide (d.member = 0) && d.trust.isEmpty && decide (d.title.toList = []) && decide (d.vote = 0) && plainB d) := by
  unfold okDeed plainB
  simp [hk]
theorem okDeed_0 {d : Deed} (h1 : d.kind ≠ 1) (h2 : d.kind ≠ 2) (h3 : d.kind ≠ 3) (h4 : d.kind ≠ 4) : okDeed d = false := by
  unfold okDeed
  simp [h1, h2, h3, h4]

theorem len_zero {α : Type} (l : List α) : ((l.length : Int) == 0) = l.isEmpty := by
  cases l with
  | nil => rfl
  | cons a l => simp; omega
theorem int_zero (n : Int) : (n == 0) = decide (n = 0) := by
  by_cases h : n = 0 <;> simp [h]

set_option maxRecDepth 100000 in
set_option maxHeartbeats 4000000 in
theorem deed2_any (d : Deed) (A1 : Option Addr) (c1 : Nat) (A2 : Option Addr) (c2 : Nat) (w : World) (hT : Ints w w.heap.size (.slice A1 d.trust.length c1) d.trust) (hP : Edits w w.heap.size (.slice A2 d.patch.length c2) d.patch) (hs : SizesOk d.patch) (ht : d.title.size ≤ maxLen) :
    Calls Tryz.prog 87 #[.agg #[.int .i64 d.kind, .int .i64 d.member, .slice A1 d.trust.length c1, .string d.title, .int .i64 d.vote, .slice A2 d.patch.length c2, .int .i64 d.start, .int .i64 d.until_, .int .i64 d.closes]] w (RetB (.bool (okDeed d)) w) := by
  have HT := Lib.hid hT
  have HP := Lib.hid hP
  have HS := Lib.hid hs
  have HTI := Lib.hid ht
  clear hT hP hs ht
  go_enter Tryz.func87, Tryz.ntmps87
  go_wp2
  go_quiet (fail)
  go_upto_region 2 with (fail)
  obtain ⟨W, hW⟩ : ∃ W : World, W = w.alloc (.cells #[.int .i64 d.kind, .int .i64 d.member, .slice A1 d.trust.length c1, .string d.title, .int .i64 d.vote, .slice A2 d.patch.length c2, .int .i64 d.start, .int .i64 d.until_, .int .i64 d.closes] 55) := ⟨_, rfl⟩
  have bW : Below w.heap.size w W := by rw [hW]; exact (Below.refl _ _).alloc (Nat.le_refl _) _
  have y0 : W.cell? ⟨w.heap.size, 0, none⟩ = some (.int .i64 d.kind) := by rw [hW]; simp [go_sem]
  have y1 : W.cell? ⟨w.heap.size, 1, none⟩ = some (.int .i64 d.member) := by rw [hW]; simp [go_sem]
  have y2 : W.cell? ⟨w.heap.size, 2, none⟩ = some (.slice A1 d.trust.length c1) := by rw [hW]; simp [go_sem]
  have y3 : W.cell? ⟨w.heap.size, 3, none⟩ = some (.string d.title) := by rw [hW]; simp [go_sem]
  have y4 : W.cell? ⟨w.heap.size, 4, none⟩ = some (.int .i64 d.vote) := by rw [hW]; simp [go_sem]
  have y5 : W.cell? ⟨w.heap.size, 5, none⟩ = some (.slice A2 d.patch.length c2) := by rw [hW]; simp [go_sem]
  have y6 : W.cell? ⟨w.heap.size, 6, none⟩ = some (.int .i64 d.start) := by rw [hW]; simp [go_sem]
  have y7 : W.cell? ⟨w.heap.size, 7, none⟩ = some (.int .i64 d.until_) := by rw [hW]; simp [go_sem]
  have y8 : W.cell? ⟨w.heap.size, 8, none⟩ = some (.int .i64 d.closes) := by rw [hW]; simp [go_sem]
  rw [← hW]
  clear hW
  obtain ⟨G, hG⟩ : ∃ G : Nat, G = w.heap.size := ⟨_, rfl⟩
  rw [← hG] at y0 y1 y2 y3 y4 y5 y6 y7 y8 ⊢
  clear hG
  go_cut [3, 4, 5, 6] (fun s3 s4 s5 s6 wx => s3 = .bool d.trust.isEmpty ∧ s4 = .bool d.title.toList.isEmpty ∧ s5 = .bool (decide (d.vote = 0)) ∧ s6 = .bool (plainB d) ∧ ∃ k, wx = W.drewN k)
  case first =>
    have hp := len_zero d.patch
    cases e1 : d.patch.isEmpty with
    | false =>
      rw [e1] at hp
      have E1 := Lib.hid e1
      clear e1
      go_wp2_with (fail)
      go_meet
      exact ⟨by rw [len_zero], rfl, by rw [int_zero], by unfold plainB; rw [E1.out]; rfl, _, rfl⟩
    | true =>
      rw [e1] at hp
      have E1 := Lib.hid e1
      clear e1
      by_cases h1 : d.start = 0
      · have b1 : (d.start == 0) = true := by simp [h1]
        have H1 := Lib.hid h1
        clear h1
        by_cases h2 : d.until_ = 0
        · have b2 : (d.until_ == 0) = true := by simp [h2]
          have H2 := Lib.hid h2
          clear h2
          by_cases h3 : d.closes = 0
          · have b3 : (d.closes == 0) = true := by simp [h3]
            have H3 := Lib.hid h3
            clear h3
            go_wp2_with (fail)
            go_meet
            exact ⟨by rw [len_zero], rfl, by rw [int_zero], by unfold plainB; rw [E1.out, H1.out, H2.out, H3.out]; rfl, _, rfl⟩
          · have b3 : (d.closes == 0) = false := by simp [h3]
            have H3 := Lib.hid h3
            clear h3
            go_wp2_with (fail)
            go_meet
            exact ⟨by rw [len_zero], rfl, by rw [int_zero], by unfold plainB; simp [H3.out], _, rfl⟩
        · have b2 : (d.until_ == 0) = false := by simp [h2]
          have H2 := Lib.hid h2
          clear h2
          go_wp2_with (fail)
          go_meet
          exact ⟨by rw [len_zero], rfl, by rw [int_zero], by unfold plainB; simp [H2.out], _, rfl⟩
      · have b1 : (d.start == 0) = false := by simp [h1]
        have H1 := Lib.hid h1
        clear h1
        go_wp2_with (fail)
        go_meet
        exact ⟨by rw [len_zero], rfl, by rw [int_zero], by unfold plainB; simp [H1.out], _, rfl⟩
  case rest =>
    obtain ⟨rfl, rfl, rfl, rfl, k, rfl⟩ := hcut
    have bb := fun n => below_drewN bW n
    by_cases k1 : d.kind = 1
    · have b1 : (d.kind == 1) = true := by simp [k1]
      have OK := Lib.hid (okDeed_1 k1)
      clear k1
      go_wp2_with (fail)
      refine (any2_any d.member _).mono ?_
      rintro e w1 ⟨rfl, n1, rfl⟩
      cases e1 : inB d.member 0 11 with
      | false =>
        have E1 := Lib.hid e1
        clear e1
        go_wp2
        go_ret
        exact ⟨by rw [OK.out, E1.out]; rfl, bb _⟩
      | true =>
        have E1 := Lib.hid e1
        clear e1
        go_wp2_with (fail)
        refine (trust2_any d.trust d.member 12 _ _ (HT.out.on (Pl.stays _) (bb _) (bb _).size) (by omega) (by omega)).mono ?_
        rintro e w2 ⟨rfl, n2, rfl⟩
        have hfin : ∀ v : Bool, okTrust d.trust d.member 12 = v → okDeed d = (v && decide (d.title.toList = []) && decide (d.vote = 0) && plainB d) := by
          intro v hv
          rw [OK.out, E1.out, hv]
          rfl
        have HF := Lib.hid hfin
        clear hfin
        cases e2 : okTrust d.trust d.member 12 with
        | false =>
          have HF := Lib.hid (HF.out _ e2)
          clear e2
          go_wp2
          go_ret
          exact ⟨by rw [HF.out]; rfl, bb _⟩
        | true =>
          have HF := Lib.hid (HF.out _ e2)
          clear e2
          go_wp2
          all_goals
            go_ret
            exact ⟨by rw [HF.out]; simp [*], bb _⟩
    · by_cases k2 : d.kind = 2
      · have b1 : (d.kind == 1) = false := by simp [k1]
        have b2 : (d.kind == 2) = true := by simp [k2]
        have OK := Lib.hid (okDeed_2 k2)
        clear k1 k2
        go_wp2_with (fail)
        refine (any2_any d.member _).mono ?_
        rintro e w1 ⟨rfl, n1, rfl⟩
        cases e1 : inB d.member 0 11 with
        | false =>
          have E1 := Lib.hid e1
          clear e1
          go_wp2
          go_ret
          exact ⟨by rw [OK.out, E1.out]; rfl, bb _⟩
        | true =>
          have E1 := Lib.hid e1
          clear e1
          go_wp2_with (fail)
          refine (name2_any d.title _ HTI.out).mono ?_
          rintro e w2 ⟨rfl, n2, rfl⟩
          cases e2 : okName d.title.toList with
          | false =>
            have E2 := Lib.hid e2
            clear e2
            go_wp2
            go_ret
            exact ⟨by rw [OK.out, E1.out, E2.out]; rfl, bb _⟩
          | true =>
            have E2 := Lib.hid e2
            clear e2
            go_wp2_with (fail)
            refine (vote2_any d.vote _).mono ?_
            rintro e w3 ⟨rfl, n3, rfl⟩
            cases e3 : inB d.vote 0 3 with
            | false =>
              have E3 := Lib.hid e3
              clear e3
              go_wp2
              go_ret
              exact ⟨by rw [OK.out, E1.out, E2.out, E3.out]; rfl, bb _⟩
            | true =>
              have hfin : okDeed d = (d.trust.isEmpty && plainB d) := by
                rw [OK.out, E1.out, E2.out, e3]
                rfl
              have HF := Lib.hid hfin
              clear hfin e3
              go_wp2
              all_goals
                go_ret
                exact ⟨by rw [HF.out]; simp [*], bb _⟩
      · by_cases k3 : d.kind = 3
        · have b1 : (d.kind == 1) = false := by simp [k1]
          have b2 : (d.kind == 2) = false := by simp [k2]
          have b3 : (d.kind == 3) = true := by simp [k3]
          have OK := Lib.hid (okDeed_3 k3)
          clear k1 k2 k3
          go_wp2_with (fail)
          refine (any2_any d.member _).mono ?_
          rintro e w1 ⟨rfl, n1, rfl⟩
          cases e1 : inB d.member 0 11 with
          | false =>
            have E1 := Lib.hid e1
            clear e1
            go_wp2
            go_ret
            exact ⟨by rw [OK.out, E1.out]; rfl, bb _⟩
          | true =>
            have E1 := Lib.hid e1
            clear e1
            go_wp2_with (fail)
            refine (name2_any d.title _ HTI.out).mono ?_
            rintro e w2 ⟨rfl, n2, rfl⟩
            cases e2 : okName d.title.toList with
            | false =>
              have E2 := Lib.hid e2
              clear e2
              go_wp2
              go_ret
              exact ⟨by rw [OK.out, E1.out, E2.out]; rfl, bb _⟩
            | true =>
              have E2 := Lib.hid e2
              clear e2
              go_wp2_with (fail)
              refine (prop2_any d.patch _ _ d.closes d.start d.until_ (HP.out.on (Pl.stays _) (bb _) (bb _).size) HS.out).mono ?_
              rintro e w3 ⟨rfl, hb3⟩
              have bb3 := (bb (k + n1 + n2)).trans (hb3.mono (bb (k + n1 + n2)).size)
              cases e3 : okSpan d.patch d.closes d.start d.until_ with
              | false =>
                have E3 := Lib.hid e3
                clear e3
                go_wp2
                go_ret
                exact ⟨by rw [OK.out, E1.out, E2.out, E3.out]; rfl, bb3⟩
              | true =>
                have hfin : okDeed d = (d.trust.isEmpty && decide (d.vote = 0)) := by
                  rw [OK.out, E1.out, E2.out, e3]
                  rfl
                have HF := Lib.hid hfin
                clear hfin e3
                go_wp2
                all_goals
                  go_ret
                  exact ⟨by rw [HF.out]; simp [*], bb3⟩
        · by_cases k4 : d.kind = 4
          · have b1 : (d.kind == 1) = false := by simp [k1]
            have b2 : (d.kind == 2) = false := by simp [k2]
            have b3 : (d.kind == 3) = false := by simp [k3]
            have b4 : (d.kind == 4) = true := by simp [k4]
            have OK := Lib.hid (okDeed_4 k4)
            clear k1 k2 k3 k4
            go_wp2
            all_goals
              go_ret
              exact ⟨by rw [OK.out]; simp [*], bb _⟩
          · have b1 : (d.kind == 1) = false := by simp [k1]
            have b2 : (d.kind == 2) = false := by simp [k2]
            have b3 : (d.kind == 3) = false := by simp [k3]
            have b4 : (d.kind == 4) = false := by simp [k4]
            have OK := Lib.hid (okDeed_0 k1 k2 k3 k4)
            clear k1 k2 k3 k4
            go_wp2
            go_ret
            exact ⟨by rw [OK.out]; rfl, bb _⟩
end Go.Proofs.YtnandbammmcncaaGreat

namespace Go.Proofs.YtnandbammmcncaaGreat
end Go.Proofs.YtnandbammmcncaaGreat

namespace Go.Proofs.YtnandbammmcncaaGreat
open Go.RowKit Go.Lib

/-- A text in which each new line is a semicolon. -/
def semis (l : List UInt8) : List UInt8 := l.map fun c => if c = 10 then 59 else c

theorem mk_toList (b : ByteArray) : (⟨b.toList.toArray⟩ : ByteArray) = b := by
  apply ByteArray.ext
  rw [ByteArray.toList_eq]
theorem cat_ll {P : Program} (l r : List UInt8) (hl : l.length ≤ 8388608) (hr : r.length ≤ 8388608) (w : World) : (Op.stringOp .add ⟨l.toArray⟩ ⟨r.toArray⟩).run P w = .ok (.string ⟨(l ++ r).toArray⟩) w :=
  run_string_add_lists w l r (by omega) (by omega)
end Go.Proofs.YtnandbammmcncaaGreat

namespace Go.Proofs.YtnandbammmcncaaGreat
open Go.RowKit Go.Lib

theorem okPatch_len {p : List Edit} (h : okPatch p = true) : p.length ≤ 16 := by
  rw [okPatch_eq, Bool.and_eq_true] at h
  exact of_decide_eq_true h.2
theorem okSent_len {l : List UInt8} (h : okSent l = true) : l.length ≤ 24 := by
  unfold okSent at h
  simp only [Bool.and_eq_true] at h
  exact of_decide_eq_true h.1.1.2
theorem okEdit_facts {e : Edit} (h : okEdit e = true) : 1 ≤ e.id ∧ e.id ≤ 99 ∧ e.old.toList.length ≤ 24 ∧ e.new.toList.length ≤ 24 := by
  unfold okEdit at h
  rw [Bool.and_eq_true] at h
  obtain ⟨h1, h2⟩ := h
  rw [inB_iff] at h1
  refine ⟨h1.1, h1.2, ?_⟩
  simp only [Bool.or_eq_true, Bool.and_eq_true, decide_eq_true_eq] at h2
  rcases h2 with (⟨⟨_, h⟩, hn⟩ | ⟨⟨_, ho⟩, h⟩) | ⟨⟨⟨_, ho⟩, hn⟩, _⟩
  · exact ⟨by rw [h]; simp, okSent_len hn⟩
  · exact ⟨okSent_len ho, by rw [h]; simp⟩
  · exact ⟨okSent_len ho, okSent_len hn⟩
/-- What PatchText gives. -/
def patchOut (es : List Edit) : List UInt8 := if okPatch es = true then patchText es else []
end Go.Proofs.YtnandbammmcncaaGreat

namespace Go.Proofs.YtnandbammmcncaaGreat
open Go.RowKit Go.Lib

def strCell (l : List UInt8) : List Value := [.string ⟨l.toArray⟩]
/-- Numbers with a text between two of them. -/
def nums (zs : List Int) (sep : List UInt8) : List UInt8 := Lib.join (zs.map itoa) sep
theorem own_below {w w' : World} {base : Nat} {e : TypeId} {size : Nat} {v : Value} {n : Nat} {xs : List Value} (h : w.ownsRow base e size v n xs) (hb : Below w.heap.size w w') : w'.ownsRow base e size v n xs := by
  obtain ⟨hl, h | ⟨g, cap, cur, rfl, hg, hh, hr⟩⟩ := h
  · exact ⟨hl, .inl h⟩
  · refine ⟨hl, .inr ⟨g, cap, cur, rfl, hg, ?_, hr⟩⟩
    have hlt : g < w.heap.size := by
      rcases Nat.lt_or_ge g w.heap.size with hlt | hge
      · exact hlt
      · rw [Array.getElem?_eq_none hge] at hh; cases hh
    rw [hb.block g hlt]
    exact hh
end Go.Proofs.YtnandbammmcncaaGreat

namespace Go.Proofs.YtnandbammmcncaaGreat
open Go.RowKit Go.Lib

def wordV (n : Int) : List UInt8 := if n = 0 then [110, 111, 110, 101] else if n = 1 then [121, 101, 115] else if n = 2 then [110, 111] else [98, 108, 97, 110, 107]
def deedText (d : Deed) : List UInt8 :=
  if d.kind = 1 then (if d.trust = [] then [116, 114, 117, 115, 116, 32] ++ itoa d.member else [116, 114, 117, 115, 116, 32] ++ itoa d.member ++ [32] ++ nums d.trust [44])
  else if d.kind = 2 then [118, 111, 116, 101, 32] ++ itoa d.member ++ [32] ++ d.title.toList ++ [32] ++ wordV d.vote
  else if d.kind = 3 then [112, 114, 111, 112, 111, 115, 101, 32] ++ itoa d.member ++ [32] ++ d.title.toList ++ [32] ++ nums [d.closes, d.start, d.until_] [32] ++ [32] ++ semis (patchText d.patch)
  else [110, 101, 120, 116]
def deedOut (d : Deed) : List UInt8 := if okDeed d = true then deedText d else []
theorem cat_op {P : Program} (l r : List UInt8) (hl : l.length ≤ 8388608) (hr : r.length ≤ 8388608) : ∃ T : List UInt8, T = l ++ r ∧ T.length ≤ l.length + r.length ∧ ∀ w, (Op.stringOp .add ⟨l.toArray⟩ ⟨r.toArray⟩).run P w = .ok (.string ⟨T.toArray⟩) w :=
  ⟨_, rfl, by simp, fun w => cat_ll l r hl hr w⟩
end Go.Proofs.YtnandbammmcncaaGreat

namespace Go.Proofs.YtnandbammmcncaaGreat
open Go.RowKit Go.Lib

/-- The one value of a kind whose text this is, if there is one. -/
noncomputable def inv {α : Type} (ok : α → Bool) (f : α → List UInt8) (t : List UInt8) : Option α :=
  open Classical in if h : ∃ x, ok x = true ∧ f x = t then some (Classical.choose h) else none
noncomputable def numOf (lo hi : Int) (t : List UInt8) : Option Int := inv (fun z => inB z lo hi) itoa t
/-- A text cut at the first k bytes of a kind. -/
def splitNC (c : UInt8) : Nat → List UInt8 → List (List UInt8)
  | 0, l => [l]
  | k + 1, l => if c ∈ l then (cutL c l).1 :: splitNC c k (cutL c l).2 else [l]
/-- The numbers of parts; none if one of them is no number. -/
noncomputable def numL (lo hi : Int) : List (List UInt8) → Option (List Int)
  | [] => some []
  | p :: ps => match numOf lo hi p, numL lo hi ps with | some n, some ns => some (n :: ns) | _, _ => none
def editLine (e : Edit) : List UInt8 :=
  if e.kind = 1 then 43 :: (itoa e.id ++ 32 :: e.new.toList) else if e.kind = 2 then 45 :: (itoa e.id ++ 32 :: e.old.toList) else 126 :: (itoa e.id ++ 32 :: (e.old.toList ++ 124 :: e.new.toList))
theorem okEdit_kinds {e : Edit} (h : okEdit e = true) : 1 ≤ e.id ∧ e.id ≤ 99 ∧ ((e.kind = 1 ∧ e.old = ⟨#[]⟩ ∧ okSent e.new.toList = true) ∨ (e.kind = 2 ∧ okSent e.old.toList = true ∧ e.new = ⟨#[]⟩) ∨ (e.kind = 3 ∧ okSent e.old.toList = true ∧ okSent e.new.toList = true)) := by
  unfold okEdit at h
  simp only [Bool.and_eq_true, Bool.or_eq_true, decide_eq_true_eq, inB_iff] at h
  obtain ⟨⟨h1, h2⟩, h⟩ := h
  refine ⟨h1, h2, ?_⟩
  have nil : ∀ b : ByteArray, b.toList = [] → b = ⟨#[]⟩ := fun b hb => by
    rw [← mk_toList b, hb]
  rcases h with (⟨⟨h, ho⟩, hn⟩ | ⟨⟨h, ho⟩, hn⟩) | ⟨⟨⟨h, ho⟩, hn⟩, _⟩
  · exact .inl ⟨h, nil _ ho, hn⟩
  · exact .inr (.inl ⟨h, ho, nil _ hn⟩)
  · exact .inr (.inr ⟨h, ho, hn⟩)
/-- The edit with a line; d: a line that begins otherwise is a change, too. -/
noncomputable def lineP (d : Bool) (lo hi : Int) : List UInt8 → Edit
  | [] => ⟨0, 0, ⟨#[]⟩, ⟨#[]⟩⟩
  | h :: r =>
    if h = 43 then ⟨1, (numOf lo hi (cutL 32 r).1).getD 0, ⟨#[]⟩, ⟨(cutL 32 r).2.toArray⟩⟩
    else if h = 45 then ⟨2, (numOf lo hi (cutL 32 r).1).getD 0, ⟨(cutL 32 r).2.toArray⟩, ⟨#[]⟩⟩
    else if (d || h == 126) = true then ⟨3, (numOf lo hi (cutL 32 r).1).getD 0, ⟨(cutL 124 (cutL 32 r).2).1.toArray⟩, ⟨(cutL 124 (cutL 32 r).2).2.toArray⟩⟩
    else ⟨0, 0, ⟨#[]⟩, ⟨#[]⟩⟩
noncomputable def patchOf (t : List UInt8) : Option (List Edit) := inv okPatch patchText t
end Go.Proofs.YtnandbammmcncaaGreat

namespace Go.Proofs.YtnandbammmcncaaGreat
open Go.RowKit

theorem okSent_head {l : List UInt8} (h : l.length < 1 ∨ 24 < l.length ∨ byteAt l 0 = 32 ∨ byteAt l (l.length - 1) = 32) : okSent l = false := by
  unfold okSent
  rcases h with h | h | h | h
  · have : decide (1 ≤ l.length) = false := decide_eq_false (by omega)
    rw [this]; simp
  · have : decide (l.length ≤ 24) = false := decide_eq_false (by omega)
    rw [this]; simp
  · simp [h]
  · simp [h]
theorem okSent_all {l : List UInt8} (h1 : 1 ≤ l.length) (h2 : l.length ≤ 24) (h3 : byteAt l 0 ≠ 32) (h4 : byteAt l (l.length - 1) ≠ 32) (h : allLt l.length (fun j => sentCh (byteAt l j)) = true) : okSent l = true := by
  unfold okSent
  rw [h]
  simp [h1, h2, h3, h4]

set_option maxHeartbeats 2000000 in
theorem sent1_any (s : ByteArray) (w : World) (hs : s.size ≤ maxLen) :
    Calls Tryz.prog 173 #[.string s] w (RetQ (.bool (okSent s.toList)) w) := by
  rw [ByteArray.toList_eq]
  unfold maxLen at hs
  have hsz : s.data.toList.length = s.size := by simp
  by_cases c1 : s.size < 1
  · have HB := Lib.hid (okSent_head (l := s.data.toList) (.inl (by omega)))
    have b1 : decide ((s.size : Int) < 1) = true := by simp; omega
    clear hsz c1
    go_enter Tryz.func173, Tryz.ntmps173
    go_wp2
    go_ret
    exact ⟨by rw [HB.out]; rfl, 0, rfl⟩
  by_cases c2 : 24 < s.size
  · have HB := Lib.hid (okSent_head (l := s.data.toList) (.inr (.inl (by omega))))
    have b1 : decide ((s.size : Int) < 1) = false := by simp; omega
    have b2 : decide ((24 : Int) < (s.size : Int)) = true := by simp; omega
    clear hsz c1 c2
    go_enter Tryz.func173, Tryz.ntmps173
    go_wp2
    go_ret
    exact ⟨by rw [HB.out]; rfl, 0, rfl⟩
  have p0n : 0 < s.size := by omega
  have pln : s.size - 1 < s.size := by omega
  have d0 := byteAt_of s 0 p0n
  have d1 := byteAt_of s (s.size - 1) pln
  have b1 : decide ((s.size : Int) < 1) = false := by simp; omega
  have b2 : decide ((24 : Int) < (s.size : Int)) = false := by simp; omega
  have p0 : (0 : Int) < (s.size : Int) := by omega
  have e1 : (1 : Int) ≤ (s.size : Int) := by omega
  by_cases c3 : (s[0]'p0n).toNat = 32
  · have HB := Lib.hid (okSent_head (l := s.data.toList) (.inr (.inr (.inl (by rw [d0]; exact c3)))))
    have b3 : (((s[0]'p0n).toNat : Int) == 32) = true := by simp; omega
    clear hsz c1 c2 c3 d0 d1
    go_enter Tryz.func173, Tryz.ntmps173
    go_wp2
    go_ret
    exact ⟨by rw [HB.out]; rfl, 0, rfl⟩
  have b3 : (((s[0]'p0n).toNat : Int) == 32) = false := by simp; omega
  by_cases c4 : (s[s.size - 1]'pln).toNat = 32
  · have HB := Lib.hid (okSent_head (l := s.data.toList) (.inr (.inr (.inr (by rw [hsz, d1]; exact c4)))))
    have b4 : (((s[s.size - 1]'pln).toNat : Int) == 32) = true := by simp; omega
    clear hsz c1 c2 c3 c4 d0 d1
    go_enter Tryz.func173, Tryz.ntmps173
    go_wp2
    go_ret
    exact ⟨by rw [HB.out]; rfl, 0, rfl⟩
  have b4 : (((s[s.size - 1]'pln).toNat : Int) == 32) = false := by simp; omega
  have HALL := Lib.hid (fun h => okSent_all (l := s.data.toList) (by omega) (by omega) (by rw [d0]; exact c3) (by rw [hsz, d1]; exact c4) h)
  clear c1 c2 c3 c4 d0 d1
  go_enter Tryz.func173, Tryz.ntmps173
  go_wp2
  go_loop [3] (fun i => ∃ k : Nat, k ≤ s.size ∧ i = .int .i64 (k : Int) ∧ allLt k (fun j => sentCh (byteAt s.data.toList j)) = true) (fun i => s.size - (intOf i).toNat)
  case atStart => exact ⟨0, Nat.zero_le _, rfl, rfl⟩
  case round =>
    obtain ⟨k, hk, rfl, hall⟩ := hrel
    have HA := Lib.hid hall
    clear hall
    by_cases hlt : k < s.size
    · have hc := byteAt_of s k hlt
      have HS := allLt_succ k (fun j => sentCh (byteAt s.data.toList j))
      rw [HA.out, Bool.true_and, hc] at HS
      have HS := Lib.hid HS
      have HC := Lib.hid hc
      clear hc b1 b2 b3 b4
      have hh : (97 ≤ s[k].toNat ∧ s[k].toNat ≤ 122) ∨ (122 < s[k].toNat) ∨ (48 ≤ s[k].toNat ∧ s[k].toNat ≤ 57) ∨ (57 < s[k].toNat ∧ s[k].toNat < 97) ∨ s[k].toNat = 32 ∨ (s[k].toNat < 48 ∧ s[k].toNat ≠ 32) := by omega
      rcases hh with hh | hh | hh | hh | hh | hh
      · have aa : decide ((97 : Int) ≤ (s[k].toNat : Int)) = true := by simp; omega
        have ab : decide ((s[k].toNat : Int) ≤ 122) = true := by simp; omega
        have ae : ((s[k].toNat : Int) == 32) = false := by simp; omega
        have hsc : sentCh s[k].toNat = true := (sentCh_iff _).2 (by omega)
        have HSC := Lib.hid hsc
        clear hsc hh
        go_wp2
        go_round
        case rel => exact ⟨k + 1, by omega, by go_num, HS.out.trans HSC.out⟩
        case measure => simp [intOf]; omega
      · have aa : decide ((97 : Int) ≤ (s[k].toNat : Int)) = true := by simp; omega
        have ab : decide ((s[k].toNat : Int) ≤ 122) = false := by simp; omega
        have ac : decide ((48 : Int) ≤ (s[k].toNat : Int)) = true := by simp; omega
        have ad : decide ((s[k].toNat : Int) ≤ 57) = false := by simp; omega
        have ae : ((s[k].toNat : Int) == 32) = false := by simp; omega
        have hsc : sentCh s[k].toNat = false := sentCh_false (by omega)
        have HSC := Lib.hid hsc
        clear hsc hh
        go_wp2
        go_ret
        exact ⟨by rw [okSent_bad s.data.toList k (by simpa using hlt) (by rw [HC.out]; exact HSC.out)]; rfl, 0, rfl⟩
      · have aa : decide ((97 : Int) ≤ (s[k].toNat : Int)) = false := by simp; omega
        have ab : decide ((s[k].toNat : Int) ≤ 122) = true := by simp; omega
        have ac : decide ((48 : Int) ≤ (s[k].toNat : Int)) = true := by simp; omega
        have ad : decide ((s[k].toNat : Int) ≤ 57) = true := by simp; omega
        have ae : ((s[k].toNat : Int) == 32) = false := by simp; omega
        have hsc : sentCh s[k].toNat = true := (sentCh_iff _).2 (by omega)
        have HSC := Lib.hid hsc
        clear hsc hh
        go_wp2
        go_round
        case rel => exact ⟨k + 1, by omega, by go_num, HS.out.trans HSC.out⟩
        case measure => simp [intOf]; omega
      · have aa : decide ((97 : Int) ≤ (s[k].toNat : Int)) = false := by simp; omega
        have ab : decide ((s[k].toNat : Int) ≤ 122) = true := by simp; omega
        have ac : decide ((48 : Int) ≤ (s[k].toNat : Int)) = true := by simp; omega
        have ad : decide ((s[k].toNat : Int) ≤ 57) = false := by simp; omega
        have ae : ((s[k].toNat : Int) == 32) = false := by simp; omega
        have hsc : sentCh s[k].toNat = false := sentCh_false (by omega)
        have HSC := Lib.hid hsc
        clear hsc hh
        go_wp2
        go_ret
        exact ⟨by rw [okSent_bad s.data.toList k (by simpa using hlt) (by rw [HC.out]; exact HSC.out)]; rfl, 0, rfl⟩
      · have aa : decide ((97 : Int) ≤ (s[k].toNat : Int)) = false := by simp; omega
        have ab : decide ((s[k].toNat : Int) ≤ 122) = true := by simp; omega
        have ac : decide ((48 : Int) ≤ (s[k].toNat : Int)) = false := by simp; omega
        have ad : decide ((s[k].toNat : Int) ≤ 57) = true := by simp; omega
        have ae : ((s[k].toNat : Int) == 32) = true := by simp; omega
        have hsc : sentCh s[k].toNat = true := (sentCh_iff _).2 (by omega)
        have HSC := Lib.hid hsc
        clear hsc hh
        go_wp2
        go_round
        case rel => exact ⟨k + 1, by omega, by go_num, HS.out.trans HSC.out⟩
        case measure => simp [intOf]; omega
      · have aa : decide ((97 : Int) ≤ (s[k].toNat : Int)) = false := by simp; omega
        have ab : decide ((s[k].toNat : Int) ≤ 122) = true := by simp; omega
        have ac : decide ((48 : Int) ≤ (s[k].toNat : Int)) = false := by simp; omega
        have ad : decide ((s[k].toNat : Int) ≤ 57) = true := by simp; omega
        have ae : ((s[k].toNat : Int) == 32) = false := by simp; omega
        have hsc : sentCh s[k].toNat = false := sentCh_false (by omega)
        have HSC := Lib.hid hsc
        clear hsc hh
        go_wp2
        go_ret
        exact ⟨by rw [okSent_bad s.data.toList k (by simpa using hlt) (by rw [HC.out]; exact HSC.out)]; rfl, 0, rfl⟩
    · have hk' : k = s.size := by omega
      have HK := Lib.hid (HALL.out (by rw [hsz, ← hk']; exact HA.out))
      have hge : ¬ (k : Int) < (s.size : Int) := by omega
      clear hk' hlt hsz
      go_wp2
      go_ret
      exact ⟨by rw [HK.out]; rfl, 0, rfl⟩
end Go.Proofs.YtnandbammmcncaaGreat

namespace Go.Proofs.YtnandbammmcncaaGreat
open Go.RowKit

def okBody (e : Edit) : Bool :=
  (decide (e.kind = 1) && decide (e.old.toList = []) && okSent e.new.toList) || (decide (e.kind = 2) && okSent e.old.toList && decide (e.new.toList = [])) ||
    (decide (e.kind = 3) && okSent e.old.toList && okSent e.new.toList && !(e.old.toList == e.new.toList))
theorem okEdit_body (e : Edit) : okEdit e = (inB e.id 1 99 && okBody e) := rfl

theorem sent1_val (s : ByteArray) (w : World) (r : Bool) (hs : s.size ≤ maxLen) (h : okSent s.toList = r) :
    Calls Tryz.prog 173 #[.string s] w (RetQ (.bool r) w) := h ▸ sent1_any s w hs

set_option maxRecDepth 100000 in
set_option maxHeartbeats 2000000 in
theorem edit1_any (e : Edit) (b o : Nat) (w : World) (hs : SizeOk e) (c0 : w.cell? ⟨b, o, none⟩ = some (.int .i64 e.kind)) (c2 : w.cell? ⟨b, o + 2, none⟩ = some (.string e.old)) (c3 : w.cell? ⟨b, o + 3, none⟩ = some (.string e.new)) :
    Calls Tryz.prog 166 #[.pointer (some ⟨b, o, none⟩)] w (RetB (.bool (okBody e)) w) := by
  obtain ⟨kind, id, old, new⟩ := e
  have c0 : w.cell? ⟨b, o, none⟩ = some (.int .i64 kind) := c0
  have c2 : w.cell? ⟨b, o + 2, none⟩ = some (.string old) := c2
  have c3 : w.cell? ⟨b, o + 3, none⟩ = some (.string new) := c3
  have HS1 : Hid (old.size ≤ maxLen) := Lib.hid hs.1
  have HS2 : Hid (new.size ≤ maxLen) := Lib.hid hs.2
  clear hs
  rcases (show kind = 1 ∨ kind = 2 ∨ kind = 3 ∨ (kind ≠ 1 ∧ kind ≠ 2 ∧ kind ≠ 3) by omega) with rfl | rfl | rfl | ⟨n1, n2, n3⟩
  · have HK : Hid (okBody ⟨1, id, old, new⟩ = (decide (old.toList = []) && okSent new.toList)) := Lib.hid (by simp [okBody])
    by_cases ho : old.toList = []
    · go_enter Tryz.func166, Tryz.ntmps166
      go_wp2_with (fail)
      refine (sent1_any new _ HS2.out).mono ?_
      rintro e w2 ⟨rfl, k2, rfl⟩
      go_wp2
      go_ret
      exact ⟨by rw [HK.out]; simp [ho], below_drewN (Below.refl _ _) _⟩
    · go_enter Tryz.func166, Tryz.ntmps166
      go_wp2
      go_ret
      exact ⟨by rw [HK.out]; simp [ho], Below.refl _ _⟩
  · have HK : Hid (okBody ⟨2, id, old, new⟩ = (okSent old.toList && decide (new.toList = []))) := Lib.hid (by simp [okBody])
    cases ho : okSent old.toList with
    | true =>
      have HO := Lib.hid ho
      clear ho
      by_cases hn : new.toList = []
      all_goals
        go_enter Tryz.func166, Tryz.ntmps166
        go_wp2_with (fail)
        refine (sent1_any old _ HS1.out).mono ?_
        rintro e w2 ⟨rfl, k2, rfl⟩
        rw [HO.out]
        go_wp2
        go_ret
        exact ⟨by rw [HK.out]; simp [HO.out, hn], below_drewN (Below.refl _ _) _⟩
    | false =>
      have HO := Lib.hid ho
      clear ho
      go_enter Tryz.func166, Tryz.ntmps166
      go_wp2_with (fail)
      refine (sent1_any old _ HS1.out).mono ?_
      rintro e w2 ⟨rfl, k2, rfl⟩
      rw [HO.out]
      go_wp2
      go_ret
      exact ⟨by rw [HK.out]; simp [HO.out], below_drewN (Below.refl _ _) _⟩
  · have HK : Hid (okBody ⟨3, id, old, new⟩ = (okSent old.toList && okSent new.toList && !(old.toList == new.toList))) := Lib.hid (by simp [okBody])
    have z2 := fun x : Aft w => x.cell c2
    have z3 := fun x : Aft w => x.cell c3
    have hs1 := HS1.out
    have hs2 := HS2.out
    cases ho : okSent old.toList with
    | true =>
      cases hn : okSent new.toList with
      | true =>
        cases he : (old.toList == new.toList) with
        | true =>
          go_enter Tryz.func166, Tryz.ntmps166
          go_wp2
          refine wp_region_aft (by kernel_rfl) (by kernel_rfl) ?_
          repeat (go_big_quiet_step ((go_at_call 173; exact aft_q (sent1_val _ _ _ (by assumption) (by assumption)))))
          refine wpQuiet_nil ?_
          rintro _ ⟨y, rfl⟩
          go_wp2
          go_ret
          exact ⟨by rw [HK.out]; simp [ho, hn, he], y.ok⟩
        | false =>
          go_enter Tryz.func166, Tryz.ntmps166
          go_wp2
          refine wp_region_aft (by kernel_rfl) (by kernel_rfl) ?_
          repeat (go_big_quiet_step ((go_at_call 173; exact aft_q (sent1_val _ _ _ (by assumption) (by assumption)))))
          refine wpQuiet_nil ?_
          rintro _ ⟨y, rfl⟩
          go_wp2
          go_ret
          exact ⟨by rw [HK.out]; simp [ho, hn, he], y.ok⟩
      | false =>
        go_enter Tryz.func166, Tryz.ntmps166
        go_wp2
        refine wp_region_aft (by kernel_rfl) (by kernel_rfl) ?_
        repeat (go_big_quiet_step ((go_at_call 173; exact aft_q (sent1_val _ _ _ (by assumption) (by assumption)))))
        refine wpQuiet_nil ?_
        rintro _ ⟨y, rfl⟩
        go_wp2
        go_ret
        exact ⟨by rw [HK.out]; simp [ho, hn], y.ok⟩
    | false =>
      go_enter Tryz.func166, Tryz.ntmps166
      go_wp2
      refine wp_region_aft (by kernel_rfl) (by kernel_rfl) ?_
      repeat (go_big_quiet_step ((go_at_call 173; exact aft_q (sent1_val _ _ _ (by assumption) (by assumption)))))
      refine wpQuiet_nil ?_
      rintro _ ⟨y, rfl⟩
      go_wp2
      go_ret
      exact ⟨by rw [HK.out]; simp [ho], y.ok⟩
  · have HK : Hid (okBody ⟨kind, id, old, new⟩ = false) := Lib.hid (by simp [okBody, n1, n2, n3])
    have m1 : (kind == 1) = false := by simp; omega
    have m2 : (kind == 2) = false := by simp; omega
    have m3 : (kind == 3) = false := by simp; omega
    clear n1 n2 n3
    go_enter Tryz.func166, Tryz.ntmps166
    go_wp2
    go_ret
    exact ⟨by rw [HK.out]; rfl, Below.refl _ _⟩
end Go.Proofs.YtnandbammmcncaaGreat

namespace Go.Proofs.YtnandbammmcncaaGreat
open Go.RowKit

theorem calls_aft {P : Program} {f : FuncId} {args : Array Value} {w : World} {R : Ending → World → Prop} (h : ∀ x : Aft w, Calls P f args x.val R) : Calls P f args w R :=
  h ⟨w, Below.refl _ _⟩
theorem wp_aft {P : Program} {c : Code} {Q : Exit → Act → World → Prop} {a : Act} {W : World} (h : ∀ x : Aft W, c.wp P Q a x.val) : c.wp P Q a W :=
  h ⟨W, Below.refl _ _⟩
/-- A region that draws its order, at a later world. -/
theorem wp_region_at {P : Program} {id : Nat} {Q : Exit → Act → World → Prop} {a : Act} {W : World} {x : Aft W} {l : List Oper} (hm : P.follows .mixedOrders = true) (hB : Region.lexB .any l.toArray = true)
    (h : wpQuiet P l.toArray (fun w' => ∃ x : Aft W, w' = x.val) (fun a' => ∀ w', (∃ x : Aft W, w' = x.val) → Q .normal a' w') l a) : (Code.region id l.toArray true).wp P Q a x.val :=
  wp_region_quiet (C := fun w' => ∃ x : Aft W, w' = x.val) hm hB ⟨⟨x.val.drew, x.ok.drew⟩, rfl⟩ (by simpa using h)

def Aft.old {w : World} {o : Obj} (y : Aft (w.alloc o)) : Aft w := ⟨y.val, ((Below.refl w.heap.size w).alloc (Nat.le_refl _) o).trans (y.ok.mono (by simp))⟩
def Aft.of {w : World} (x : Aft w) (y : Aft x.val) : Aft w := ⟨y.val, x.ok.trans (y.ok.mono x.ok.size)⟩
theorem aft_done {w W : World} (h : Below w.heap.size w W) (x : Aft W) : Below w.heap.size w x.val := h.trans (x.ok.mono h.size)
theorem SlR.aft {α : Type} {R : World → Nat → List Value → α → Prop} {size : Nat} {W : World} {B : Nat} {v : Value} {xs : List α} (h : SlR R size W B v xs) (hR : Stays R) (hB : B ≤ W.heap.size) : ∀ x : Aft W, SlR R size x.val x.val.heap.size v xs :=
  fun x => h.on hR (x.ok.mono hB) (Nat.le_trans hB x.ok.size)
theorem retQ_b {P : Program} {f : FuncId} {args : Array Value} {w : World} {v : Value} (h : Calls P f args w (RetQ v w)) : Calls P f args w (RetB v w) :=
  h.mono fun _ _ ⟨he, k, hk⟩ => ⟨he, hk ▸ below_drewN (Below.refl _ _) k⟩

end Go.Proofs.YtnandbammmcncaaGreat

namespace Go.Proofs.YtnandbammmcncaaGreat
open Go.RowKit

theorem in1_val (n a b : Int) (w : World) (r : Bool) (h : inB n a b = r) : Calls Tryz.prog 48 #[.int .i64 n, .int .i64 a, .int .i64 b] w (RetQ (.bool r) w) := h ▸ in1_any n a b w
theorem edit1_val (e : Edit) (b o : Nat) (w : World) (r : Bool) (hs : SizeOk e) (c0 : w.cell? ⟨b, o, none⟩ = some (.int .i64 e.kind)) (c2 : w.cell? ⟨b, o + 2, none⟩ = some (.string e.old)) (c3 : w.cell? ⟨b, o + 3, none⟩ = some (.string e.new)) (h : okBody e = r) :
    Calls Tryz.prog 166 #[.pointer (some ⟨b, o, none⟩)] w (RetB (.bool r) w) := h ▸ edit1_any e b o w hs c0 c2 c3

set_option maxHeartbeats 4000000 in
theorem patch1_any (es : List Edit) (w : World) (v : Value) (h : Edits w w.heap.size v es) (hs : SizesOk es) :
    Calls Tryz.prog 128 #[v] w (RetB (.bool (okPatch es)) w) := by
  obtain ⟨A, c, rfl, hc, hm, hel⟩ := h
  unfold maxLen at hm
  have hlm : es.length ≤ 9223372036854775807 := by omega
  have HEL := Lib.hid hel
  have HS := Lib.hid hs
  clear hel hs
  refine calls_aft fun x0 => ?_
  go_enter Tryz.func128, Tryz.ntmps128
  go_wp2
  go_loopw [3] (fun i wr => ∃ (k : Nat) (x : Aft w), k ≤ es.length ∧ i = .int .i64 (k : Int) ∧ allLt k (patchAt es) = true ∧ wr = x.val) (fun i _ => es.length - (intOf i).toNat)
  case atStart => exact ⟨0, x0, Nat.zero_le _, rfl, rfl, rfl⟩
  case round =>
    obtain ⟨k, x, hk, rfl, hall, rfl⟩ := hrel
    have HA := Lib.hid hall
    clear hall
    by_cases hlt : k < es.length
    · obtain ⟨b, off, rfl, hblt, hcell⟩ := HEL.out (by omega)
      have hget : es[k]? = some es[k] := List.getElem?_eq_getElem hlt
      obtain ⟨c0, c1, c2, c3⟩ := edits_at hcell hget
      have z0 := fun y : Aft w => y.cell c0
      have z1 := fun y : Aft w => y.cell c1
      have z2 := fun y : Aft w => y.cell c2
      have z3 := fun y : Aft w => y.cell c3
      have HG := Lib.hid hget
      have HC := Lib.hid hcell
      have hso := HS.out es[k] (List.getElem_mem hlt)
      clear hget hcell c0 c1 c2 c3
      generalize es[k] = e at *
      cases h1 : inB e.id 1 99 with
      | false =>
        have H1 := Lib.hid h1
        have HB := Lib.hid (okPatch_bad hlt (patchAt_bad HG.out (by rw [okEdit_body, h1]; rfl)))
        clear h1
        go_wp2_with (fail)
        refine wp_region_at (by kernel_rfl) (by kernel_rfl) ?_
        repeat (go_big_quiet_step ((first | (go_at_call 48; exact aft_q (in1_val _ _ _ _ _ H1.out)))))
        refine wpQuiet_nil ?_
        rintro _ ⟨y, rfl⟩
        go_wp2
        go_ret
        exact ⟨by rw [HB.out]; rfl, y.ok⟩
      | true =>
        have H1 := Lib.hid h1
        clear h1
        cases h2 : okBody e with
        | false =>
          have H2 := Lib.hid h2
          have HB := Lib.hid (okPatch_bad hlt (patchAt_bad HG.out (by rw [okEdit_body, h2]; simp)))
          clear h2
          go_wp2_with (fail)
          refine wp_region_at (by kernel_rfl) (by kernel_rfl) ?_
          repeat (go_big_quiet_step ((first | (go_at_call 48; exact aft_q (in1_val _ _ _ _ _ H1.out)) | (go_at_call 166; exact aft_b (edit1_val e _ _ _ _ hso (z0 _) (z2 _) (z3 _) H2.out)))))
          refine wpQuiet_nil ?_
          rintro _ ⟨y, rfl⟩
          go_wp2
          go_ret
          exact ⟨by rw [HB.out]; rfl, y.ok⟩
        | true =>
          have H2 := Lib.hid h2
          have HO : Hid (okEdit e = true) := Lib.hid (by rw [okEdit_body, H1.out, h2]; rfl)
          clear h2
          have HSU := allLt_succ k (patchAt es)
          rw [HA.out, Bool.true_and] at HSU
          have HSU := Lib.hid HSU
          by_cases hk0 : k = 0
          · have HN : Hid (allLt (k + 1) (patchAt es) = true) := HSU.out.trans (patchAt_zero hk0 HG.out HO.out)
            have hk1 : decide ((0 : Int) < (k : Int)) = false := by simp; omega
            have hk2 : decide (0 < k) = false := by simp; omega
            clear hk0
            go_wp2_with (fail)
            refine wp_region_at (by kernel_rfl) (by kernel_rfl) ?_
            repeat (go_big_quiet_step ((first | (go_at_call 48; exact aft_q (in1_val _ _ _ _ _ H1.out)) | (go_at_call 166; exact aft_b (edit1_val e _ _ _ _ hso (z0 _) (z2 _) (z3 _) H2.out)))))
            refine wpQuiet_nil ?_
            rintro _ ⟨y, rfl⟩
            go_wp2
            go_roundw
            case rel => exact ⟨k + 1, y, by omega, by go_num, HN.out, rfl⟩
            case measure => simp [intOf]; omega
          · obtain ⟨m, rfl⟩ : ∃ m, k = m + 1 := ⟨k - 1, by omega⟩
            have hd : es[m]? = some (es[m]'(by omega)) := List.getElem?_eq_getElem (by omega)
            obtain ⟨_, d1, _, _⟩ := edits_at HC.out hd
            generalize (es[m]'(by omega)) = d at *
            have HP := Lib.hid (patchAt_succ hd HG.out HO.out)
            have z4 := fun y : Aft w => y.cell d1
            clear hd hk0 d1
            by_cases hid : d.id < e.id
            · have HN : Hid (allLt (m + 1 + 1) (patchAt es) = true) := HSU.out.trans (HP.out.trans (decide_eq_true hid))
              have hid2 : ¬ (e.id ≤ d.id) := by omega
              go_wp2_with (fail)
              refine wp_region_at (by kernel_rfl) (by kernel_rfl) ?_
              repeat (go_big_quiet_step ((first | (go_at_call 48; exact aft_q (in1_val _ _ _ _ _ H1.out)) | (go_at_call 166; exact aft_b (edit1_val e _ _ _ _ hso (z0 _) (z2 _) (z3 _) H2.out)))))
              refine wpQuiet_nil ?_
              rintro _ ⟨y, rfl⟩
              go_wp2
              go_roundw
              case rel => exact ⟨(m + 1) + 1, y, by omega, by go_num, HN.out, rfl⟩
              case measure => simp [intOf]; omega
            · have HB := Lib.hid (okPatch_bad hlt (HP.out.trans (decide_eq_false hid)))
              have hid2 : e.id ≤ d.id := by omega
              go_wp2_with (fail)
              refine wp_region_at (by kernel_rfl) (by kernel_rfl) ?_
              repeat (go_big_quiet_step ((first | (go_at_call 48; exact aft_q (in1_val _ _ _ _ _ H1.out)) | (go_at_call 166; exact aft_b (edit1_val e _ _ _ _ hso (z0 _) (z2 _) (z3 _) H2.out)))))
              refine wpQuiet_nil ?_
              rintro _ ⟨y, rfl⟩
              go_wp2
              go_ret
              exact ⟨by rw [HB.out]; rfl, y.ok⟩
    · have hk' : k = es.length := by omega
      have hP : okPatch es = decide (es.length ≤ 16) := by
        rw [okPatch_eq, ← hk', HA.out, Bool.true_and]
      have HP := Lib.hid hP
      have hge : ¬ (k : Int) < (es.length : Int) := by omega
      clear hP hk' hlt
      by_cases h16 : es.length ≤ 16
      all_goals
        have H16 := Lib.hid h16
        have e16 : decide ((es.length : Int) ≤ 16) = decide (es.length ≤ 16) := decide_eq_decide.2 (by omega)
        first | rw [decide_eq_true H16.out] at e16 | rw [decide_eq_false H16.out] at e16
        clear h16
        go_wp2
        go_ret
        exact ⟨by rw [HP.out]; simp [H16.out], x.ok⟩
end Go.Proofs.YtnandbammmcncaaGreat

namespace Go.Proofs.YtnandbammmcncaaGreat
open Go.RowKit

set_option maxHeartbeats 1000000 in
theorem has1_any (zs : List Int) (z : Int) (w : World) (v : Value) (h : Ints w w.heap.size v zs) :
    Calls Tryz.prog 153 #[v, .int .i64 z] w (RetB (.bool (zs.contains z)) w) := by
  obtain ⟨A, c, rfl, hc, hm, hel⟩ := h
  unfold maxLen at hm
  have hlm : zs.length ≤ 9223372036854775807 := by omega
  have HEL := Lib.hid hel
  obtain ⟨r, hr⟩ : ∃ r, zs.contains z = r := ⟨_, rfl⟩
  rw [hr]
  have HR := Lib.hid hr
  clear hel hr
  go_enter Tryz.func153, Tryz.ntmps153
  go_wp2
  go_loop [5] (fun i => ∃ k : Nat, k ≤ zs.length ∧ i = .int .i64 (k : Int) ∧ z ∉ zs.take k) (fun i => zs.length - (intOf i).toNat)
  case atStart => exact ⟨0, Nat.zero_le _, rfl, by simp⟩
  case round =>
    obtain ⟨k, hk, rfl, hno⟩ := hrel
    have HN := Lib.hid hno
    clear hno
    by_cases hlt : k < zs.length
    · obtain ⟨b, off, rfl, hblt, hcell⟩ := HEL.out (by omega)
      have hget : zs[k]? = some zs[k] := List.getElem?_eq_getElem hlt
      have x0 := ints_at hcell hget
      have hts : zs.take (k + 1) = zs.take k ++ [zs[k]] := by rw [List.take_succ_eq_append_getElem hlt]
      have HG := Lib.hid hget
      have HT := Lib.hid hts
      clear hget hcell hts
      generalize zs[k] = u at *
      by_cases hz : u = z
      · have hz1 : (u == z) = true := by simp [hz]
        have HC : Hid (r = true) := Lib.hid (by rw [← HR.out, List.contains_iff_mem, ← hz]; exact List.mem_of_getElem? HG.out)
        clear hz
        go_wp2
        go_ret
        exact ⟨by rw [HC.out]; rfl, Below.refl _ _⟩
      · have hz1 : (u == z) = false := by simp [hz]
        have HZ := Lib.hid hz
        clear hz
        go_wp2
        go_round
        case rel => exact ⟨k + 1, by omega, by go_num, by rw [HT.out, List.mem_append, List.mem_singleton]; rintro (h | h); exact HN.out h; exact HZ.out h.symm⟩
        case measure => simp [intOf]; omega
    · have hk' : k = zs.length := by omega
      have hge : ¬ (k : Int) < (zs.length : Int) := by omega
      have HC : Hid (r = false) := Lib.hid (by
        rw [← HR.out, Bool.eq_false_iff, ne_eq, List.contains_iff_mem]
        have := HN.out
        rwa [hk', List.take_length] at this)
      clear hk' hlt
      go_wp2
      go_ret
      exact ⟨by rw [HC.out]; rfl, Below.refl _ _⟩
theorem has1_val (zs : List Int) (z : Int) (w : World) (v : Value) (r : Bool) (h : Ints w w.heap.size v zs) (hr : zs.contains z = r) :
    Calls Tryz.prog 153 #[v, .int .i64 z] w (RetB (.bool r) w) := hr ▸ has1_any zs z w v h

set_option maxHeartbeats 4000000 in
theorem trust1_any (zs : List Int) (member n : Int) (w : World) (v : Value) (h : Ints w w.heap.size v zs) (hn1 : -1000 ≤ n) (hn2 : n ≤ 1000) :
    Calls Tryz.prog 107 #[v, .int .i64 member, .int .i64 n] w (RetB (.bool (okTrust zs member n)) w) := by
  have HI := Lib.hid h
  obtain ⟨A, c, rfl, hc, hm, hel⟩ := h
  unfold maxLen at hm
  have hlm : zs.length ≤ 9223372036854775807 := by omega
  have HEL := Lib.hid hel
  clear hel
  have hw1 : IntKind.i64.wrap (n - 1) = n - 1 := IntWalk.i64_in _ (by omega)
  have HW := Lib.hid hw1
  clear hw1
  refine calls_aft fun x0 => ?_
  go_enter Tryz.func107, Tryz.ntmps107
  go_wp2
  go_loopw [7] (fun i wr => ∃ (k : Nat) (x : Aft w), k ≤ zs.length ∧ i = .int .i64 (k : Int) ∧ allLt k (trustAt zs member n) = true ∧ wr = x.val) (fun i _ => zs.length - (intOf i).toNat)
  case atStart => exact ⟨0, x0, Nat.zero_le _, rfl, rfl, rfl⟩
  case round =>
    obtain ⟨k, x, hk, rfl, hall, rfl⟩ := hrel
    have HA := Lib.hid hall
    clear hall
    by_cases hlt : k < zs.length
    · obtain ⟨b, off, hA, hblt, hcell⟩ := HEL.out (by omega)
      subst hA
      have hget : zs[k]? = some zs[k] := List.getElem?_eq_getElem hlt
      have c0 := ints_at hcell hget
      have z0 := fun y : Aft w => y.cell c0
      have HG := Lib.hid hget
      have HT := Lib.hid (trustAt_eq (member := member) (n := n) hget)
      have HSU := allLt_succ k (trustAt zs member n)
      rw [HA.out, Bool.true_and] at HSU
      have HSU := Lib.hid HSU
      have HSub : Hid (∀ y : Aft w, Ints y.val y.val.heap.size (.slice (some ⟨b, off, none⟩) k c) (zs.take k)) := Lib.hid (SlR.aft (SlR.take HI.out k hk) (Pl.stays _) (Nat.le_refl _))
      clear hget hcell c0
      generalize zs[k] = z at *
      have hk1 : (k : Int) ≤ (c : Int) := by omega
      have hk0 : (0 : Int) ≤ (k : Int) := by omega
      cases h1 : inB z 0 (n - 1) with
      | false =>
        have HB := Lib.hid (okTrust_bad hlt (HT.out.trans (by rw [h1]; rfl)))
        have hw1 := HW.out
        go_wp2_with (fail)
        refine wp_region_at (by kernel_rfl) (by kernel_rfl) ?_
        repeat (go_big_quiet_step ((first | (go_at_call 48; exact aft_q (in1_val _ _ _ _ _ h1)))))
        refine wpQuiet_nil ?_
        rintro _ ⟨y, rfl⟩
        go_wp2
        go_ret
        exact ⟨by rw [HB.out]; rfl, y.ok⟩
      | true =>
        by_cases hz : z = member
        · have hz1 : (z == member) = true := by simp [hz]
          have HB := Lib.hid (okTrust_bad hlt (HT.out.trans (by rw [h1]; simp [hz])))
          have hw1 := HW.out
          clear hz
          go_wp2_with (fail)
          refine wp_region_at (by kernel_rfl) (by kernel_rfl) ?_
          repeat (go_big_quiet_step ((first | (go_at_call 48; exact aft_q (in1_val _ _ _ _ _ h1)))))
          refine wpQuiet_nil ?_
          rintro _ ⟨y, rfl⟩
          go_wp2
          go_ret
          exact ⟨by rw [HB.out]; rfl, y.ok⟩
        · have hz1 : (z == member) = false := by simp [hz]
          have HZ := Lib.hid hz
          clear hz
          cases h2 : (zs.take k).contains z with
          | true =>
            have H2 := Lib.hid h2
            have HB := Lib.hid (okTrust_bad hlt (HT.out.trans (by rw [h2]; simp)))
            clear h2
            have hw1 := HW.out
            go_wp2_with (fail)
            refine wp_region_at (by kernel_rfl) (by kernel_rfl) ?_
            repeat (go_big_quiet_step ((first | (go_at_call 48; exact aft_q (in1_val _ _ _ _ _ h1)) | (go_at_call 153; exact aft_b (has1_val _ _ _ _ _ (HSub.out _) H2.out)))))
            refine wpQuiet_nil ?_
            rintro _ ⟨y, rfl⟩
            go_wp2
            go_ret
            exact ⟨by rw [HB.out]; rfl, y.ok⟩
          | false =>
            have H2 := Lib.hid h2
            have HN : Hid (allLt (k + 1) (trustAt zs member n) = true) := HSU.out.trans (HT.out.trans (by rw [h1, h2]; simp [HZ.out]))
            clear h2
            have hw1 := HW.out
            go_wp2_with (fail)
            refine wp_region_at (by kernel_rfl) (by kernel_rfl) ?_
            repeat (go_big_quiet_step ((first | (go_at_call 48; exact aft_q (in1_val _ _ _ _ _ h1)) | (go_at_call 153; exact aft_b (has1_val _ _ _ _ _ (HSub.out _) H2.out)))))
            refine wpQuiet_nil ?_
            rintro _ ⟨y, rfl⟩
            go_wp2
            go_roundw
            case rel => exact ⟨k + 1, y, by omega, by go_num, HN.out, rfl⟩
            case measure => simp [intOf]; omega
    · have hk' : k = zs.length := by omega
      have hP : okTrust zs member n = decide (zs.length ≤ 4) := by
        rw [okTrust_eq, ← hk', HA.out, Bool.true_and]
      have HP := Lib.hid hP
      have hge : ¬ (k : Int) < (zs.length : Int) := by omega
      clear hP hk' hlt
      by_cases h4 : zs.length ≤ 4
      all_goals
        have H4 := Lib.hid h4
        have e4 : decide ((zs.length : Int) ≤ 4) = decide (zs.length ≤ 4) := decide_eq_decide.2 (by omega)
        first | rw [decide_eq_true H4.out] at e4 | rw [decide_eq_false H4.out] at e4
        clear h4
        go_wp2
        go_ret
        exact ⟨by rw [HP.out]; simp [H4.out], x.ok⟩
theorem trust1_val (zs : List Int) (member n : Int) (w : World) (v : Value) (r : Bool) (h : Ints w w.heap.size v zs) (hn1 : -1000 ≤ n) (hn2 : n ≤ 1000) (hr : okTrust zs member n = r) :
    Calls Tryz.prog 107 #[v, .int .i64 member, .int .i64 n] w (RetB (.bool r) w) := hr ▸ trust1_any zs member n w v h hn1 hn2

/-- A deed behind a pointer. -/
structure DeedP (w : World) (b o : Nat) (d : Deed) (A1 : Option Addr) (c1 : Nat) (A2 : Option Addr) (c2 : Nat) : Prop where
  k0 : w.cell? ⟨b, o, none⟩ = some (.int .i64 d.kind)
  k1 : w.cell? ⟨b, o + 1, none⟩ = some (.int .i64 d.member)
  k2 : w.cell? ⟨b, o + 2, none⟩ = some (.slice A1 d.trust.length c1)
  k3 : w.cell? ⟨b, o + 3, none⟩ = some (.string d.title)
  k4 : w.cell? ⟨b, o + 4, none⟩ = some (.int .i64 d.vote)
  k5 : w.cell? ⟨b, o + 5, none⟩ = some (.slice A2 d.patch.length c2)
  k6 : w.cell? ⟨b, o + 6, none⟩ = some (.int .i64 d.start)
  k7 : w.cell? ⟨b, o + 7, none⟩ = some (.int .i64 d.until_)
  k8 : w.cell? ⟨b, o + 8, none⟩ = some (.int .i64 d.closes)
  ints : Ints w w.heap.size (.slice A1 d.trust.length c1) d.trust
  edits : Edits w w.heap.size (.slice A2 d.patch.length c2) d.patch
  sizes : SizesOk d.patch
  title : d.title.size ≤ maxLen
theorem DeedP.aft {w : World} {b o : Nat} {d : Deed} {A1 : Option Addr} {c1 : Nat} {A2 : Option Addr} {c2 : Nat} (h : DeedP w b o d A1 c1 A2 c2) (x : Aft w) : DeedP x.val b o d A1 c1 A2 c2 :=
  ⟨x.cell h.k0, x.cell h.k1, x.cell h.k2, x.cell h.k3, x.cell h.k4, x.cell h.k5, x.cell h.k6, x.cell h.k7, x.cell h.k8, h.ints.aft (Pl.stays _) (Nat.le_refl _) x, h.edits.aft (Pl.stays _) (Nat.le_refl _) x, h.sizes, h.title⟩

set_option maxHeartbeats 1000000 in
theorem plain1_any (d : Deed) (b o : Nat) (A1 : Option Addr) (c1 : Nat) (A2 : Option Addr) (c2 : Nat) (w : World) (h : DeedP w b o d A1 c1 A2 c2) :
    Calls Tryz.prog 126 #[.pointer (some ⟨b, o, none⟩)] w (RetB (.bool (plainB d)) w) := by
  have z5 := h.k5
  have z6 := h.k6
  have z7 := h.k7
  have z8 := h.k8
  have hp := len_zero d.patch
  clear h
  cases e1 : d.patch.isEmpty with
  | false =>
    rw [e1] at hp
    have E1 := Lib.hid e1
    clear e1
    go_enter Tryz.func126, Tryz.ntmps126
    go_wp2
    go_ret
    exact ⟨by unfold plainB; rw [E1.out]; rfl, Below.refl _ _⟩
  | true =>
    rw [e1] at hp
    have E1 := Lib.hid e1
    clear e1
    by_cases h1 : d.start = 0
    · have b1 : (d.start == 0) = true := by simp [h1]
      have H1 := Lib.hid h1
      clear h1
      by_cases h2 : d.until_ = 0
      · have b2 : (d.until_ == 0) = true := by simp [h2]
        have H2 := Lib.hid h2
        clear h2
        by_cases h3 : d.closes = 0
        · have b3 : (d.closes == 0) = true := by simp [h3]
          have H3 := Lib.hid h3
          clear h3
          go_enter Tryz.func126, Tryz.ntmps126
          go_wp2
          go_ret
          exact ⟨by unfold plainB; rw [E1.out, H1.out, H2.out, H3.out]; rfl, Below.refl _ _⟩
        · have b3 : (d.closes == 0) = false := by simp [h3]
          have H3 := Lib.hid h3
          clear h3
          go_enter Tryz.func126, Tryz.ntmps126
          go_wp2
          go_ret
          exact ⟨by unfold plainB; simp [H3.out], Below.refl _ _⟩
      · have b2 : (d.until_ == 0) = false := by simp [h2]
        have H2 := Lib.hid h2
        clear h2
        go_enter Tryz.func126, Tryz.ntmps126
        go_wp2
        go_ret
        exact ⟨by unfold plainB; simp [H2.out], Below.refl _ _⟩
    · have b1 : (d.start == 0) = false := by simp [h1]
      have H1 := Lib.hid h1
      clear h1
      go_enter Tryz.func126, Tryz.ntmps126
      go_wp2
      go_ret
      exact ⟨by unfold plainB; simp [H1.out], Below.refl _ _⟩
theorem plain1_val (d : Deed) (b o : Nat) (A1 : Option Addr) (c1 : Nat) (A2 : Option Addr) (c2 : Nat) (w : World) (r : Bool) (h : DeedP w b o d A1 c1 A2 c2) (hr : plainB d = r) :
    Calls Tryz.prog 126 #[.pointer (some ⟨b, o, none⟩)] w (RetB (.bool r) w) := hr ▸ plain1_any d b o A1 c1 A2 c2 w h

def spanB (start until_ closes : Int) : Bool := inB closes 1 999 && inB until_ 1 1000 && inB start closes (until_ - 1)
set_option maxHeartbeats 1000000 in
theorem span1_any (start until_ closes : Int) (w : World) :
    Calls Tryz.prog 129 #[.int .i64 start, .int .i64 until_, .int .i64 closes] w (RetB (.bool (spanB start until_ closes)) w) := by
  cases h1 : inB closes 1 999 with
  | false =>
    have HB : Hid (spanB start until_ closes = false) := Lib.hid (by unfold spanB; rw [h1]; rfl)
    go_enter Tryz.func129, Tryz.ntmps129
    go_wp2_with ((go_at_call 48; refine (in1_val _ _ _ _ _ h1).mono ?_; rintro e _ ⟨rfl, k, rfl⟩))
    go_ret
    exact ⟨by rw [HB.out]; rfl, below_drewN (Below.refl _ _) _⟩
  | true =>
    cases h2 : inB until_ 1 1000 with
    | false =>
      have HB : Hid (spanB start until_ closes = false) := Lib.hid (by unfold spanB; rw [h1, h2]; rfl)
      go_enter Tryz.func129, Tryz.ntmps129
      go_wp2_with ((go_at_call 48; refine (in1_val _ _ _ _ _ (by assumption)).mono ?_; rintro e _ ⟨rfl, k, rfl⟩))
      go_ret
      exact ⟨by rw [HB.out]; rfl, below_drewN (Below.refl _ _) _⟩
    | true =>
      have hu := inB_iff.1 h2
      obtain ⟨u1, u2⟩ := hu
      have HB : Hid (spanB start until_ closes = inB start closes (until_ - 1)) := Lib.hid (by unfold spanB; rw [h1, h2]; rfl)
      go_enter Tryz.func129, Tryz.ntmps129
      go_wp2_with (fail)
      refine (in1_val _ _ _ _ _ h1).mono ?_
      rintro e _ ⟨rfl, k1, rfl⟩
      go_wp2_with (fail)
      refine (in1_val _ _ _ _ _ h2).mono ?_
      rintro e _ ⟨rfl, k2, rfl⟩
      go_wp2_with (fail)
      refine (in1_any _ _ _ _).mono ?_
      rintro e _ ⟨rfl, k3, rfl⟩
      go_wp2
      go_ret
      exact ⟨by rw [HB.out]; rfl, below_drewN (Below.refl _ _) _⟩
theorem span1_val (start until_ closes : Int) (w : World) (r : Bool) (hr : spanB start until_ closes = r) :
    Calls Tryz.prog 129 #[.int .i64 start, .int .i64 until_, .int .i64 closes] w (RetB (.bool r) w) := hr ▸ span1_any start until_ closes w
theorem name1_val (s : ByteArray) (w : World) (r : Bool) (hs : s.size ≤ maxLen) (hr : okName s.toList = r) :
    Calls Tryz.prog 127 #[.string s] w (RetQ (.bool r) w) := hr ▸ name1_any s w hs
theorem patch1_val (es : List Edit) (w : World) (v : Value) (r : Bool) (h : Edits w w.heap.size v es) (hs : SizesOk es) (hr : okPatch es = r) :
    Calls Tryz.prog 128 #[v] w (RetB (.bool r) w) := hr ▸ patch1_any es w v h hs
theorem okSpan_span (p : List Edit) (closes start until_ : Int) : okSpan p closes start until_ = (!p.isEmpty && okPatch p && spanB start until_ closes) := by
  have : (inB closes 1 999 && decide (closes ≤ start) && decide (start < until_) && decide (until_ ≤ 1000)) = spanB start until_ closes := by
    rw [Bool.eq_iff_iff]
    unfold spanB
    simp only [Bool.and_eq_true, inB_iff, decide_eq_true_eq]
    omega
  rw [← this]
  unfold okSpan
  simp only [Bool.and_assoc]

theorem len_pos {α : Type} (l : List α) : decide ((0 : Int) < (l.length : Int)) = !l.isEmpty := by
  cases l with
  | nil => rfl
  | cons a l => simp
theorem okDeed_1s {d : Deed} (hk : d.kind = 1) : okDeed d = (inB d.member 0 11 && okTrust d.trust d.member 12 && d.title.toList.isEmpty && (d.vote == 0) && plainB d) := by
  have : decide (d.title.toList = []) = d.title.toList.isEmpty := by cases d.title.toList <;> simp
  rw [okDeed_1 hk, int_zero, this]
theorem okDeed_2s {d : Deed} (hk : d.kind = 2) : okDeed d = (inB d.member 0 11 && ((d.trust.length : Int) == 0) && okName d.title.toList && inB d.vote 0 3 && plainB d) := by
  rw [okDeed_2 hk, len_zero]
  cases inB d.member 0 11 <;> cases okName d.title.toList <;> cases inB d.vote 0 3 <;> cases d.trust.isEmpty <;> cases plainB d <;> rfl
theorem okDeed_3s {d : Deed} (hk : d.kind = 3) : okDeed d = (inB d.member 0 11 && ((d.trust.length : Int) == 0) && okName d.title.toList && (d.vote == 0) && decide ((0 : Int) < (d.patch.length : Int)) && okPatch d.patch && spanB d.start d.until_ d.closes) := by
  rw [okDeed_3 hk, len_zero, len_pos, int_zero, okSpan_span]
  cases inB d.member 0 11 <;> cases okName d.title.toList <;> cases d.trust.isEmpty <;> cases decide (d.vote = 0) <;> cases d.patch.isEmpty <;> cases okPatch d.patch <;> cases spanB d.start d.until_ d.closes <;> rfl
theorem okDeed_4s {d : Deed} (hk : d.kind = 4) : okDeed d = ((d.member == 0) && ((d.trust.length : Int) == 0) && d.title.toList.isEmpty && (d.vote == 0) && plainB d) := by
  have : decide (d.title.toList = []) = d.title.toList.isEmpty := by cases d.title.toList <;> simp
  rw [okDeed_4 hk, len_zero, int_zero, int_zero, this]
end Go.Proofs.YtnandbammmcncaaGreat

namespace Go.Proofs.YtnandbammmcncaaGreat
open Go.RowKit

set_option maxRecDepth 100000 in
set_option maxHeartbeats 8000000 in
theorem deed1_k1 (d : Deed) (b o : Nat) (A1 : Option Addr) (c1 : Nat) (A2 : Option Addr) (c2 : Nat) (w : World) (h : DeedP w b o d A1 c1 A2 c2) (hk : d.kind = 1) :
    Calls Tryz.prog 81 #[.pointer (some ⟨b, o, none⟩)] w (RetB (.bool (okDeed d)) w) := by
  have z0 := fun y : Aft w => y.cell h.k0
  have z1 := fun y : Aft w => y.cell h.k1
  have z2 := fun y : Aft w => y.cell h.k2
  have z3 := fun y : Aft w => y.cell h.k3
  have z4 := fun y : Aft w => y.cell h.k4
  have z5 := fun y : Aft w => y.cell h.k5
  have z6 := fun y : Aft w => y.cell h.k6
  have z7 := fun y : Aft w => y.cell h.k7
  have z8 := fun y : Aft w => y.cell h.k8
  have HT := Lib.hid (fun y : Aft w => (h.aft y).ints)
  have HE := Lib.hid (fun y : Aft w => (h.aft y).edits)
  have HP := Lib.hid (fun y : Aft w => h.aft y)
  have HSZ := Lib.hid h.sizes
  have HTI := Lib.hid h.title
  have OK := Lib.hid (okDeed_1s hk)
  have b1 : (d.kind == 1) = true := by simp [hk]
  clear h hk
  cases h0 : inB d.member 0 11 with
  | false =>
    refine calls_aft fun x0 => ?_
    go_enter Tryz.func81, Tryz.ntmps81
    go_wp2_with (first | (go_at_call 48; refine (aft_q (in1_val _ _ _ _ _ (by assumption))).mono ?_; rintro e _ ⟨rfl, y, rfl⟩) | (go_at_call 107; refine (aft_b (trust1_val _ _ _ _ _ _ (HT.out _) (by omega) (by omega) (by assumption))).mono ?_; rintro e _ ⟨rfl, y, rfl⟩) | (go_at_call 126; refine (aft_b (plain1_val d _ _ _ _ _ _ _ _ (HP.out _) (by assumption))).mono ?_; rintro e _ ⟨rfl, y, rfl⟩) | (go_at_call 127; refine (aft_q (name1_val _ _ _ HTI.out (by assumption))).mono ?_; rintro e _ ⟨rfl, y, rfl⟩) | (go_at_call 128; refine (aft_b (patch1_val _ _ _ _ (HE.out _) HSZ.out (by assumption))).mono ?_; rintro e _ ⟨rfl, y, rfl⟩) | (go_at_call 129; refine (aft_b (span1_val _ _ _ _ _ (by assumption))).mono ?_; rintro e _ ⟨rfl, y, rfl⟩))
    refine wp_region_at (by kernel_rfl) (by kernel_rfl) ?_
    repeat (go_big_quiet_step ((first | (go_at_call 48; exact aft_q (in1_val _ _ _ _ _ (by assumption))) | (go_at_call 107; exact aft_b (trust1_val _ _ _ _ _ _ (HT.out _) (by omega) (by omega) (by assumption))) | (go_at_call 126; exact aft_b (plain1_val d _ _ _ _ _ _ _ _ (HP.out _) (by assumption))) | (go_at_call 127; exact aft_q (name1_val _ _ _ HTI.out (by assumption))) | (go_at_call 128; exact aft_b (patch1_val _ _ _ _ (HE.out _) HSZ.out (by assumption))) | (go_at_call 129; exact aft_b (span1_val _ _ _ _ _ (by assumption))))))
    refine wpQuiet_nil ?_
    rintro _ ⟨y, rfl⟩
    go_wp2
    go_ret
    exact ⟨by rw [OK.out, h0]; rfl, y.ok⟩
  | true =>
    cases h1 : okTrust d.trust d.member 12 with
    | false =>
      refine calls_aft fun x0 => ?_
      go_enter Tryz.func81, Tryz.ntmps81
      go_wp2_with (first | (go_at_call 48; refine (aft_q (in1_val _ _ _ _ _ (by assumption))).mono ?_; rintro e _ ⟨rfl, y, rfl⟩) | (go_at_call 107; refine (aft_b (trust1_val _ _ _ _ _ _ (HT.out _) (by omega) (by omega) (by assumption))).mono ?_; rintro e _ ⟨rfl, y, rfl⟩) | (go_at_call 126; refine (aft_b (plain1_val d _ _ _ _ _ _ _ _ (HP.out _) (by assumption))).mono ?_; rintro e _ ⟨rfl, y, rfl⟩) | (go_at_call 127; refine (aft_q (name1_val _ _ _ HTI.out (by assumption))).mono ?_; rintro e _ ⟨rfl, y, rfl⟩) | (go_at_call 128; refine (aft_b (patch1_val _ _ _ _ (HE.out _) HSZ.out (by assumption))).mono ?_; rintro e _ ⟨rfl, y, rfl⟩) | (go_at_call 129; refine (aft_b (span1_val _ _ _ _ _ (by assumption))).mono ?_; rintro e _ ⟨rfl, y, rfl⟩))
      refine wp_region_at (by kernel_rfl) (by kernel_rfl) ?_
      repeat (go_big_quiet_step ((first | (go_at_call 48; exact aft_q (in1_val _ _ _ _ _ (by assumption))) | (go_at_call 107; exact aft_b (trust1_val _ _ _ _ _ _ (HT.out _) (by omega) (by omega) (by assumption))) | (go_at_call 126; exact aft_b (plain1_val d _ _ _ _ _ _ _ _ (HP.out _) (by assumption))) | (go_at_call 127; exact aft_q (name1_val _ _ _ HTI.out (by assumption))) | (go_at_call 128; exact aft_b (patch1_val _ _ _ _ (HE.out _) HSZ.out (by assumption))) | (go_at_call 129; exact aft_b (span1_val _ _ _ _ _ (by assumption))))))
      refine wpQuiet_nil ?_
      rintro _ ⟨y, rfl⟩
      go_wp2
      go_ret
      exact ⟨by rw [OK.out, h0, h1]; rfl, y.ok⟩
    | true =>
      cases h2 : d.title.toList.isEmpty with
      | false =>
        refine calls_aft fun x0 => ?_
        go_enter Tryz.func81, Tryz.ntmps81
        go_wp2_with (first | (go_at_call 48; refine (aft_q (in1_val _ _ _ _ _ (by assumption))).mono ?_; rintro e _ ⟨rfl, y, rfl⟩) | (go_at_call 107; refine (aft_b (trust1_val _ _ _ _ _ _ (HT.out _) (by omega) (by omega) (by assumption))).mono ?_; rintro e _ ⟨rfl, y, rfl⟩) | (go_at_call 126; refine (aft_b (plain1_val d _ _ _ _ _ _ _ _ (HP.out _) (by assumption))).mono ?_; rintro e _ ⟨rfl, y, rfl⟩) | (go_at_call 127; refine (aft_q (name1_val _ _ _ HTI.out (by assumption))).mono ?_; rintro e _ ⟨rfl, y, rfl⟩) | (go_at_call 128; refine (aft_b (patch1_val _ _ _ _ (HE.out _) HSZ.out (by assumption))).mono ?_; rintro e _ ⟨rfl, y, rfl⟩) | (go_at_call 129; refine (aft_b (span1_val _ _ _ _ _ (by assumption))).mono ?_; rintro e _ ⟨rfl, y, rfl⟩))
        refine wp_region_at (by kernel_rfl) (by kernel_rfl) ?_
        repeat (go_big_quiet_step ((first | (go_at_call 48; exact aft_q (in1_val _ _ _ _ _ (by assumption))) | (go_at_call 107; exact aft_b (trust1_val _ _ _ _ _ _ (HT.out _) (by omega) (by omega) (by assumption))) | (go_at_call 126; exact aft_b (plain1_val d _ _ _ _ _ _ _ _ (HP.out _) (by assumption))) | (go_at_call 127; exact aft_q (name1_val _ _ _ HTI.out (by assumption))) | (go_at_call 128; exact aft_b (patch1_val _ _ _ _ (HE.out _) HSZ.out (by assumption))) | (go_at_call 129; exact aft_b (span1_val _ _ _ _ _ (by assumption))))))
        refine wpQuiet_nil ?_
        rintro _ ⟨y, rfl⟩
        go_wp2
        go_ret
        exact ⟨by rw [OK.out, h0, h1, h2]; rfl, y.ok⟩
      | true =>
        cases h3 : (d.vote == 0) with
        | false =>
          refine calls_aft fun x0 => ?_
          go_enter Tryz.func81, Tryz.ntmps81
          go_wp2_with (first | (go_at_call 48; refine (aft_q (in1_val _ _ _ _ _ (by assumption))).mono ?_; rintro e _ ⟨rfl, y, rfl⟩) | (go_at_call 107; refine (aft_b (trust1_val _ _ _ _ _ _ (HT.out _) (by omega) (by omega) (by assumption))).mono ?_; rintro e _ ⟨rfl, y, rfl⟩) | (go_at_call 126; refine (aft_b (plain1_val d _ _ _ _ _ _ _ _ (HP.out _) (by assumption))).mono ?_; rintro e _ ⟨rfl, y, rfl⟩) | (go_at_call 127; refine (aft_q (name1_val _ _ _ HTI.out (by assumption))).mono ?_; rintro e _ ⟨rfl, y, rfl⟩) | (go_at_call 128; refine (aft_b (patch1_val _ _ _ _ (HE.out _) HSZ.out (by assumption))).mono ?_; rintro e _ ⟨rfl, y, rfl⟩) | (go_at_call 129; refine (aft_b (span1_val _ _ _ _ _ (by assumption))).mono ?_; rintro e _ ⟨rfl, y, rfl⟩))
          refine wp_region_at (by kernel_rfl) (by kernel_rfl) ?_
          repeat (go_big_quiet_step ((first | (go_at_call 48; exact aft_q (in1_val _ _ _ _ _ (by assumption))) | (go_at_call 107; exact aft_b (trust1_val _ _ _ _ _ _ (HT.out _) (by omega) (by omega) (by assumption))) | (go_at_call 126; exact aft_b (plain1_val d _ _ _ _ _ _ _ _ (HP.out _) (by assumption))) | (go_at_call 127; exact aft_q (name1_val _ _ _ HTI.out (by assumption))) | (go_at_call 128; exact aft_b (patch1_val _ _ _ _ (HE.out _) HSZ.out (by assumption))) | (go_at_call 129; exact aft_b (span1_val _ _ _ _ _ (by assumption))))))
          refine wpQuiet_nil ?_
          rintro _ ⟨y, rfl⟩
          go_wp2
          go_ret
          exact ⟨by rw [OK.out, h0, h1, h2, h3]; rfl, y.ok⟩
        | true =>
          cases h4 : plainB d with
          | false =>
            refine calls_aft fun x0 => ?_
            go_enter Tryz.func81, Tryz.ntmps81
            go_wp2_with (first | (go_at_call 48; refine (aft_q (in1_val _ _ _ _ _ (by assumption))).mono ?_; rintro e _ ⟨rfl, y, rfl⟩) | (go_at_call 107; refine (aft_b (trust1_val _ _ _ _ _ _ (HT.out _) (by omega) (by omega) (by assumption))).mono ?_; rintro e _ ⟨rfl, y, rfl⟩) | (go_at_call 126; refine (aft_b (plain1_val d _ _ _ _ _ _ _ _ (HP.out _) (by assumption))).mono ?_; rintro e _ ⟨rfl, y, rfl⟩) | (go_at_call 127; refine (aft_q (name1_val _ _ _ HTI.out (by assumption))).mono ?_; rintro e _ ⟨rfl, y, rfl⟩) | (go_at_call 128; refine (aft_b (patch1_val _ _ _ _ (HE.out _) HSZ.out (by assumption))).mono ?_; rintro e _ ⟨rfl, y, rfl⟩) | (go_at_call 129; refine (aft_b (span1_val _ _ _ _ _ (by assumption))).mono ?_; rintro e _ ⟨rfl, y, rfl⟩))
            refine wp_region_at (by kernel_rfl) (by kernel_rfl) ?_
            repeat (go_big_quiet_step ((first | (go_at_call 48; exact aft_q (in1_val _ _ _ _ _ (by assumption))) | (go_at_call 107; exact aft_b (trust1_val _ _ _ _ _ _ (HT.out _) (by omega) (by omega) (by assumption))) | (go_at_call 126; exact aft_b (plain1_val d _ _ _ _ _ _ _ _ (HP.out _) (by assumption))) | (go_at_call 127; exact aft_q (name1_val _ _ _ HTI.out (by assumption))) | (go_at_call 128; exact aft_b (patch1_val _ _ _ _ (HE.out _) HSZ.out (by assumption))) | (go_at_call 129; exact aft_b (span1_val _ _ _ _ _ (by assumption))))))
            refine wpQuiet_nil ?_
            rintro _ ⟨y, rfl⟩
            go_wp2
            go_ret
            exact ⟨by rw [OK.out, h0, h1, h2, h3, h4]; rfl, y.ok⟩
          | true =>
            refine calls_aft fun x0 => ?_
            go_enter Tryz.func81, Tryz.ntmps81
            go_wp2_with (first | (go_at_call 48; refine (aft_q (in1_val _ _ _ _ _ (by assumption))).mono ?_; rintro e _ ⟨rfl, y, rfl⟩) | (go_at_call 107; refine (aft_b (trust1_val _ _ _ _ _ _ (HT.out _) (by omega) (by omega) (by assumption))).mono ?_; rintro e _ ⟨rfl, y, rfl⟩) | (go_at_call 126; refine (aft_b (plain1_val d _ _ _ _ _ _ _ _ (HP.out _) (by assumption))).mono ?_; rintro e _ ⟨rfl, y, rfl⟩) | (go_at_call 127; refine (aft_q (name1_val _ _ _ HTI.out (by assumption))).mono ?_; rintro e _ ⟨rfl, y, rfl⟩) | (go_at_call 128; refine (aft_b (patch1_val _ _ _ _ (HE.out _) HSZ.out (by assumption))).mono ?_; rintro e _ ⟨rfl, y, rfl⟩) | (go_at_call 129; refine (aft_b (span1_val _ _ _ _ _ (by assumption))).mono ?_; rintro e _ ⟨rfl, y, rfl⟩))
            refine wp_region_at (by kernel_rfl) (by kernel_rfl) ?_
            repeat (go_big_quiet_step ((first | (go_at_call 48; exact aft_q (in1_val _ _ _ _ _ (by assumption))) | (go_at_call 107; exact aft_b (trust1_val _ _ _ _ _ _ (HT.out _) (by omega) (by omega) (by assumption))) | (go_at_call 126; exact aft_b (plain1_val d _ _ _ _ _ _ _ _ (HP.out _) (by assumption))) | (go_at_call 127; exact aft_q (name1_val _ _ _ HTI.out (by assumption))) | (go_at_call 128; exact aft_b (patch1_val _ _ _ _ (HE.out _) HSZ.out (by assumption))) | (go_at_call 129; exact aft_b (span1_val _ _ _ _ _ (by assumption))))))
            refine wpQuiet_nil ?_
            rintro _ ⟨y, rfl⟩
            go_wp2
            go_ret
            exact ⟨by rw [OK.out, h0, h1, h2, h3, h4]; rfl, y.ok⟩
set_option maxRecDepth 100000 in
set_option maxHeartbeats 8000000 in
theorem deed1_k2 (d : Deed) (b o : Nat) (A1 : Option Addr) (c1 : Nat) (A2 : Option Addr) (c2 : Nat) (w : World) (h : DeedP w b o d A1 c1 A2 c2) (hk : d.kind = 2) :
    Calls Tryz.prog 81 #[.pointer (some ⟨b, o, none⟩)] w (RetB (.bool (okDeed d)) w) := by
  have z0 := fun y : Aft w => y.cell h.k0
  have z1 := fun y : Aft w => y.cell h.k1
  have z2 := fun y : Aft w => y.cell h.k2
  have z3 := fun y : Aft w => y.cell h.k3
  have z4 := fun y : Aft w => y.cell h.k4
  have z5 := fun y : Aft w => y.cell h.k5
  have z6 := fun y : Aft w => y.cell h.k6
  have z7 := fun y : Aft w => y.cell h.k7
  have z8 := fun y : Aft w => y.cell h.k8
  have HT := Lib.hid (fun y : Aft w => (h.aft y).ints)
  have HE := Lib.hid (fun y : Aft w => (h.aft y).edits)
  have HP := Lib.hid (fun y : Aft w => h.aft y)
  have HSZ := Lib.hid h.sizes
  have HTI := Lib.hid h.title
  have OK := Lib.hid (okDeed_2s hk)
  have b1 : (d.kind == 1) = false := by simp [hk]
  have b2 : (d.kind == 2) = true := by simp [hk]
  clear h hk
  cases h0 : inB d.member 0 11 with
  | false =>
    refine calls_aft fun x0 => ?_
    go_enter Tryz.func81, Tryz.ntmps81
    go_wp2_with (first | (go_at_call 48; refine (aft_q (in1_val _ _ _ _ _ (by assumption))).mono ?_; rintro e _ ⟨rfl, y, rfl⟩) | (go_at_call 107; refine (aft_b (trust1_val _ _ _ _ _ _ (HT.out _) (by omega) (by omega) (by assumption))).mono ?_; rintro e _ ⟨rfl, y, rfl⟩) | (go_at_call 126; refine (aft_b (plain1_val d _ _ _ _ _ _ _ _ (HP.out _) (by assumption))).mono ?_; rintro e _ ⟨rfl, y, rfl⟩) | (go_at_call 127; refine (aft_q (name1_val _ _ _ HTI.out (by assumption))).mono ?_; rintro e _ ⟨rfl, y, rfl⟩) | (go_at_call 128; refine (aft_b (patch1_val _ _ _ _ (HE.out _) HSZ.out (by assumption))).mono ?_; rintro e _ ⟨rfl, y, rfl⟩) | (go_at_call 129; refine (aft_b (span1_val _ _ _ _ _ (by assumption))).mono ?_; rintro e _ ⟨rfl, y, rfl⟩))
    go_ret
    exact ⟨by rw [OK.out, h0]; rfl, y.ok⟩
  | true =>
    cases h1 : ((d.trust.length : Int) == 0) with
    | false =>
      refine calls_aft fun x0 => ?_
      go_enter Tryz.func81, Tryz.ntmps81
      go_wp2_with (first | (go_at_call 48; refine (aft_q (in1_val _ _ _ _ _ (by assumption))).mono ?_; rintro e _ ⟨rfl, y, rfl⟩) | (go_at_call 107; refine (aft_b (trust1_val _ _ _ _ _ _ (HT.out _) (by omega) (by omega) (by assumption))).mono ?_; rintro e _ ⟨rfl, y, rfl⟩) | (go_at_call 126; refine (aft_b (plain1_val d _ _ _ _ _ _ _ _ (HP.out _) (by assumption))).mono ?_; rintro e _ ⟨rfl, y, rfl⟩) | (go_at_call 127; refine (aft_q (name1_val _ _ _ HTI.out (by assumption))).mono ?_; rintro e _ ⟨rfl, y, rfl⟩) | (go_at_call 128; refine (aft_b (patch1_val _ _ _ _ (HE.out _) HSZ.out (by assumption))).mono ?_; rintro e _ ⟨rfl, y, rfl⟩) | (go_at_call 129; refine (aft_b (span1_val _ _ _ _ _ (by assumption))).mono ?_; rintro e _ ⟨rfl, y, rfl⟩))
      go_ret
      exact ⟨by rw [OK.out, h0, h1]; rfl, y.ok⟩
    | true =>
      cases h2 : okName d.title.toList with
      | false =>
        refine calls_aft fun x0 => ?_
        go_enter Tryz.func81, Tryz.ntmps81
        go_wp2_with (first | (go_at_call 48; refine (aft_q (in1_val _ _ _ _ _ (by assumption))).mono ?_; rintro e _ ⟨rfl, y, rfl⟩) | (go_at_call 107; refine (aft_b (trust1_val _ _ _ _ _ _ (HT.out _) (by omega) (by omega) (by assumption))).mono ?_; rintro e _ ⟨rfl, y, rfl⟩) | (go_at_call 126; refine (aft_b (plain1_val d _ _ _ _ _ _ _ _ (HP.out _) (by assumption))).mono ?_; rintro e _ ⟨rfl, y, rfl⟩) | (go_at_call 127; refine (aft_q (name1_val _ _ _ HTI.out (by assumption))).mono ?_; rintro e _ ⟨rfl, y, rfl⟩) | (go_at_call 128; refine (aft_b (patch1_val _ _ _ _ (HE.out _) HSZ.out (by assumption))).mono ?_; rintro e _ ⟨rfl, y, rfl⟩) | (go_at_call 129; refine (aft_b (span1_val _ _ _ _ _ (by assumption))).mono ?_; rintro e _ ⟨rfl, y, rfl⟩))
        go_ret
        exact ⟨by rw [OK.out, h0, h1, h2]; rfl, y.ok⟩
      | true =>
        cases h3 : inB d.vote 0 3 with
        | false =>
          refine calls_aft fun x0 => ?_
          go_enter Tryz.func81, Tryz.ntmps81
          go_wp2_with (first | (go_at_call 48; refine (aft_q (in1_val _ _ _ _ _ (by assumption))).mono ?_; rintro e _ ⟨rfl, y, rfl⟩) | (go_at_call 107; refine (aft_b (trust1_val _ _ _ _ _ _ (HT.out _) (by omega) (by omega) (by assumption))).mono ?_; rintro e _ ⟨rfl, y, rfl⟩) | (go_at_call 126; refine (aft_b (plain1_val d _ _ _ _ _ _ _ _ (HP.out _) (by assumption))).mono ?_; rintro e _ ⟨rfl, y, rfl⟩) | (go_at_call 127; refine (aft_q (name1_val _ _ _ HTI.out (by assumption))).mono ?_; rintro e _ ⟨rfl, y, rfl⟩) | (go_at_call 128; refine (aft_b (patch1_val _ _ _ _ (HE.out _) HSZ.out (by assumption))).mono ?_; rintro e _ ⟨rfl, y, rfl⟩) | (go_at_call 129; refine (aft_b (span1_val _ _ _ _ _ (by assumption))).mono ?_; rintro e _ ⟨rfl, y, rfl⟩))
          go_ret
          exact ⟨by rw [OK.out, h0, h1, h2, h3]; rfl, y.ok⟩
        | true =>
          cases h4 : plainB d with
          | false =>
            refine calls_aft fun x0 => ?_
            go_enter Tryz.func81, Tryz.ntmps81
            go_wp2_with (first | (go_at_call 48; refine (aft_q (in1_val _ _ _ _ _ (by assumption))).mono ?_; rintro e _ ⟨rfl, y, rfl⟩) | (go_at_call 107; refine (aft_b (trust1_val _ _ _ _ _ _ (HT.out _) (by omega) (by omega) (by assumption))).mono ?_; rintro e _ ⟨rfl, y, rfl⟩) | (go_at_call 126; refine (aft_b (plain1_val d _ _ _ _ _ _ _ _ (HP.out _) (by assumption))).mono ?_; rintro e _ ⟨rfl, y, rfl⟩) | (go_at_call 127; refine (aft_q (name1_val _ _ _ HTI.out (by assumption))).mono ?_; rintro e _ ⟨rfl, y, rfl⟩) | (go_at_call 128; refine (aft_b (patch1_val _ _ _ _ (HE.out _) HSZ.out (by assumption))).mono ?_; rintro e _ ⟨rfl, y, rfl⟩) | (go_at_call 129; refine (aft_b (span1_val _ _ _ _ _ (by assumption))).mono ?_; rintro e _ ⟨rfl, y, rfl⟩))
            go_ret
            exact ⟨by rw [OK.out, h0, h1, h2, h3, h4]; rfl, y.ok⟩
          | true =>
            refine calls_aft fun x0 => ?_
            go_enter Tryz.func81, Tryz.ntmps81
            go_wp2_with (first | (go_at_call 48; refine (aft_q (in1_val _ _ _ _ _ (by assumption))).mono ?_; rintro e _ ⟨rfl, y, rfl⟩) | (go_at_call 107; refine (aft_b (trust1_val _ _ _ _ _ _ (HT.out _) (by omega) (by omega) (by assumption))).mono ?_; rintro e _ ⟨rfl, y, rfl⟩) | (go_at_call 126; refine (aft_b (plain1_val d _ _ _ _ _ _ _ _ (HP.out _) (by assumption))).mono ?_; rintro e _ ⟨rfl, y, rfl⟩) | (go_at_call 127; refine (aft_q (name1_val _ _ _ HTI.out (by assumption))).mono ?_; rintro e _ ⟨rfl, y, rfl⟩) | (go_at_call 128; refine (aft_b (patch1_val _ _ _ _ (HE.out _) HSZ.out (by assumption))).mono ?_; rintro e _ ⟨rfl, y, rfl⟩) | (go_at_call 129; refine (aft_b (span1_val _ _ _ _ _ (by assumption))).mono ?_; rintro e _ ⟨rfl, y, rfl⟩))
            go_ret
            exact ⟨by rw [OK.out, h0, h1, h2, h3, h4]; rfl, y.ok⟩
set_option maxRecDepth 100000 in
set_option maxHeartbeats 8000000 in
theorem deed1_k3 (d : Deed) (b o : Nat) (A1 : Option Addr) (c1 : Nat) (A2 : Option Addr) (c2 : Nat) (w : World) (h : DeedP w b o d A1 c1 A2 c2) (hk : d.kind = 3) :
    Calls Tryz.prog 81 #[.pointer (some ⟨b, o, none⟩)] w (RetB (.bool (okDeed d)) w) := by
  have z0 := fun y : Aft w => y.cell h.k0
  have z1 := fun y : Aft w => y.cell h.k1
  have z2 := fun y : Aft w => y.cell h.k2
  have z3 := fun y : Aft w => y.cell h.k3
  have z4 := fun y : Aft w => y.cell h.k4
  have z5 := fun y : Aft w => y.cell h.k5
  have z6 := fun y : Aft w => y.cell h.k6
  have z7 := fun y : Aft w => y.cell h.k7
  have z8 := fun y : Aft w => y.cell h.k8
  have HT := Lib.hid (fun y : Aft w => (h.aft y).ints)
  have HE := Lib.hid (fun y : Aft w => (h.aft y).edits)
  have HP := Lib.hid (fun y : Aft w => h.aft y)
  have HSZ := Lib.hid h.sizes
  have HTI := Lib.hid h.title
  have OK := Lib.hid (okDeed_3s hk)
  have b1 : (d.kind == 1) = false := by simp [hk]
  have b2 : (d.kind == 2) = false := by simp [hk]
  have b3 : (d.kind == 3) = true := by simp [hk]
  clear h hk
  cases h0 : inB d.member 0 11 with
  | false =>
    refine calls_aft fun x0 => ?_
    go_enter Tryz.func81, Tryz.ntmps81
    go_wp2_with (first | (go_at_call 48; refine (aft_q (in1_val _ _ _ _ _ (by assumption))).mono ?_; rintro e _ ⟨rfl, y, rfl⟩) | (go_at_call 107; refine (aft_b (trust1_val _ _ _ _ _ _ (HT.out _) (by omega) (by omega) (by assumption))).mono ?_; rintro e _ ⟨rfl, y, rfl⟩) | (go_at_call 126; refine (aft_b (plain1_val d _ _ _ _ _ _ _ _ (HP.out _) (by assumption))).mono ?_; rintro e _ ⟨rfl, y, rfl⟩) | (go_at_call 127; refine (aft_q (name1_val _ _ _ HTI.out (by assumption))).mono ?_; rintro e _ ⟨rfl, y, rfl⟩) | (go_at_call 128; refine (aft_b (patch1_val _ _ _ _ (HE.out _) HSZ.out (by assumption))).mono ?_; rintro e _ ⟨rfl, y, rfl⟩) | (go_at_call 129; refine (aft_b (span1_val _ _ _ _ _ (by assumption))).mono ?_; rintro e _ ⟨rfl, y, rfl⟩))
    refine wp_region_at (by kernel_rfl) (by kernel_rfl) ?_
    repeat (go_big_quiet_step ((first | (go_at_call 48; exact aft_q (in1_val _ _ _ _ _ (by assumption))) | (go_at_call 107; exact aft_b (trust1_val _ _ _ _ _ _ (HT.out _) (by omega) (by omega) (by assumption))) | (go_at_call 126; exact aft_b (plain1_val d _ _ _ _ _ _ _ _ (HP.out _) (by assumption))) | (go_at_call 127; exact aft_q (name1_val _ _ _ HTI.out (by assumption))) | (go_at_call 128; exact aft_b (patch1_val _ _ _ _ (HE.out _) HSZ.out (by assumption))) | (go_at_call 129; exact aft_b (span1_val _ _ _ _ _ (by assumption))))))
    refine wpQuiet_nil ?_
    rintro _ ⟨y, rfl⟩
    go_wp2
    go_ret
    exact ⟨by rw [OK.out, h0]; rfl, y.ok⟩
  | true =>
    cases h1 : ((d.trust.length : Int) == 0) with
    | false =>
      refine calls_aft fun x0 => ?_
      go_enter Tryz.func81, Tryz.ntmps81
      go_wp2_with (first | (go_at_call 48; refine (aft_q (in1_val _ _ _ _ _ (by assumption))).mono ?_; rintro e _ ⟨rfl, y, rfl⟩) | (go_at_call 107; refine (aft_b (trust1_val _ _ _ _ _ _ (HT.out _) (by omega) (by omega) (by assumption))).mono ?_; rintro e _ ⟨rfl, y, rfl⟩) | (go_at_call 126; refine (aft_b (plain1_val d _ _ _ _ _ _ _ _ (HP.out _) (by assumption))).mono ?_; rintro e _ ⟨rfl, y, rfl⟩) | (go_at_call 127; refine (aft_q (name1_val _ _ _ HTI.out (by assumption))).mono ?_; rintro e _ ⟨rfl, y, rfl⟩) | (go_at_call 128; refine (aft_b (patch1_val _ _ _ _ (HE.out _) HSZ.out (by assumption))).mono ?_; rintro e _ ⟨rfl, y, rfl⟩) | (go_at_call 129; refine (aft_b (span1_val _ _ _ _ _ (by assumption))).mono ?_; rintro e _ ⟨rfl, y, rfl⟩))
      refine wp_region_at (by kernel_rfl) (by kernel_rfl) ?_
      repeat (go_big_quiet_step ((first | (go_at_call 48; exact aft_q (in1_val _ _ _ _ _ (by assumption))) | (go_at_call 107; exact aft_b (trust1_val _ _ _ _ _ _ (HT.out _) (by omega) (by omega) (by assumption))) | (go_at_call 126; exact aft_b (plain1_val d _ _ _ _ _ _ _ _ (HP.out _) (by assumption))) | (go_at_call 127; exact aft_q (name1_val _ _ _ HTI.out (by assumption))) | (go_at_call 128; exact aft_b (patch1_val _ _ _ _ (HE.out _) HSZ.out (by assumption))) | (go_at_call 129; exact aft_b (span1_val _ _ _ _ _ (by assumption))))))
      refine wpQuiet_nil ?_
      rintro _ ⟨y, rfl⟩
      go_wp2
      go_ret
      exact ⟨by rw [OK.out, h0, h1]; rfl, y.ok⟩
    | true =>
      cases h2 : okName d.title.toList with
      | false =>
        refine calls_aft fun x0 => ?_
        go_enter Tryz.func81, Tryz.ntmps81
        go_wp2_with (first | (go_at_call 48; refine (aft_q (in1_val _ _ _ _ _ (by assumption))).mono ?_; rintro e _ ⟨rfl, y, rfl⟩) | (go_at_call 107; refine (aft_b (trust1_val _ _ _ _ _ _ (HT.out _) (by omega) (by omega) (by assumption))).mono ?_; rintro e _ ⟨rfl, y, rfl⟩) | (go_at_call 126; refine (aft_b (plain1_val d _ _ _ _ _ _ _ _ (HP.out _) (by assumption))).mono ?_; rintro e _ ⟨rfl, y, rfl⟩) | (go_at_call 127; refine (aft_q (name1_val _ _ _ HTI.out (by assumption))).mono ?_; rintro e _ ⟨rfl, y, rfl⟩) | (go_at_call 128; refine (aft_b (patch1_val _ _ _ _ (HE.out _) HSZ.out (by assumption))).mono ?_; rintro e _ ⟨rfl, y, rfl⟩) | (go_at_call 129; refine (aft_b (span1_val _ _ _ _ _ (by assumption))).mono ?_; rintro e _ ⟨rfl, y, rfl⟩))
        refine wp_region_at (by kernel_rfl) (by kernel_rfl) ?_
        repeat (go_big_quiet_step ((first | (go_at_call 48; exact aft_q (in1_val _ _ _ _ _ (by assumption))) | (go_at_call 107; exact aft_b (trust1_val _ _ _ _ _ _ (HT.out _) (by omega) (by omega) (by assumption))) | (go_at_call 126; exact aft_b (plain1_val d _ _ _ _ _ _ _ _ (HP.out _) (by assumption))) | (go_at_call 127; exact aft_q (name1_val _ _ _ HTI.out (by assumption))) | (go_at_call 128; exact aft_b (patch1_val _ _ _ _ (HE.out _) HSZ.out (by assumption))) | (go_at_call 129; exact aft_b (span1_val _ _ _ _ _ (by assumption))))))
        refine wpQuiet_nil ?_
        rintro _ ⟨y, rfl⟩
        go_wp2
        go_ret
        exact ⟨by rw [OK.out, h0, h1, h2]; rfl, y.ok⟩
      | true =>
        cases h3 : (d.vote == 0) with
        | false =>
          refine calls_aft fun x0 => ?_
          go_enter Tryz.func81, Tryz.ntmps81
          go_wp2_with (first | (go_at_call 48; refine (aft_q (in1_val _ _ _ _ _ (by assumption))).mono ?_; rintro e _ ⟨rfl, y, rfl⟩) | (go_at_call 107; refine (aft_b (trust1_val _ _ _ _ _ _ (HT.out _) (by omega) (by omega) (by assumption))).mono ?_; rintro e _ ⟨rfl, y, rfl⟩) | (go_at_call 126; refine (aft_b (plain1_val d _ _ _ _ _ _ _ _ (HP.out _) (by assumption))).mono ?_; rintro e _ ⟨rfl, y, rfl⟩) | (go_at_call 127; refine (aft_q (name1_val _ _ _ HTI.out (by assumption))).mono ?_; rintro e _ ⟨rfl, y, rfl⟩) | (go_at_call 128; refine (aft_b (patch1_val _ _ _ _ (HE.out _) HSZ.out (by assumption))).mono ?_; rintro e _ ⟨rfl, y, rfl⟩) | (go_at_call 129; refine (aft_b (span1_val _ _ _ _ _ (by assumption))).mono ?_; rintro e _ ⟨rfl, y, rfl⟩))
          refine wp_region_at (by kernel_rfl) (by kernel_rfl) ?_
          repeat (go_big_quiet_step ((first | (go_at_call 48; exact aft_q (in1_val _ _ _ _ _ (by assumption))) | (go_at_call 107; exact aft_b (trust1_val _ _ _ _ _ _ (HT.out _) (by omega) (by omega) (by assumption))) | (go_at_call 126; exact aft_b (plain1_val d _ _ _ _ _ _ _ _ (HP.out _) (by assumption))) | (go_at_call 127; exact aft_q (name1_val _ _ _ HTI.out (by assumption))) | (go_at_call 128; exact aft_b (patch1_val _ _ _ _ (HE.out _) HSZ.out (by assumption))) | (go_at_call 129; exact aft_b (span1_val _ _ _ _ _ (by assumption))))))
          refine wpQuiet_nil ?_
          rintro _ ⟨y, rfl⟩
          go_wp2
          go_ret
          exact ⟨by rw [OK.out, h0, h1, h2, h3]; rfl, y.ok⟩
        | true =>
          cases h4 : decide ((0 : Int) < (d.patch.length : Int)) with
          | false =>
            have e4 : decide (0 < d.patch.length) = false := by rw [← h4]; exact decide_eq_decide.2 (by omega)
            refine calls_aft fun x0 => ?_
            go_enter Tryz.func81, Tryz.ntmps81
            go_wp2_with (first | (go_at_call 48; refine (aft_q (in1_val _ _ _ _ _ (by assumption))).mono ?_; rintro e _ ⟨rfl, y, rfl⟩) | (go_at_call 107; refine (aft_b (trust1_val _ _ _ _ _ _ (HT.out _) (by omega) (by omega) (by assumption))).mono ?_; rintro e _ ⟨rfl, y, rfl⟩) | (go_at_call 126; refine (aft_b (plain1_val d _ _ _ _ _ _ _ _ (HP.out _) (by assumption))).mono ?_; rintro e _ ⟨rfl, y, rfl⟩) | (go_at_call 127; refine (aft_q (name1_val _ _ _ HTI.out (by assumption))).mono ?_; rintro e _ ⟨rfl, y, rfl⟩) | (go_at_call 128; refine (aft_b (patch1_val _ _ _ _ (HE.out _) HSZ.out (by assumption))).mono ?_; rintro e _ ⟨rfl, y, rfl⟩) | (go_at_call 129; refine (aft_b (span1_val _ _ _ _ _ (by assumption))).mono ?_; rintro e _ ⟨rfl, y, rfl⟩))
            refine wp_region_at (by kernel_rfl) (by kernel_rfl) ?_
            repeat (go_big_quiet_step ((first | (go_at_call 48; exact aft_q (in1_val _ _ _ _ _ (by assumption))) | (go_at_call 107; exact aft_b (trust1_val _ _ _ _ _ _ (HT.out _) (by omega) (by omega) (by assumption))) | (go_at_call 126; exact aft_b (plain1_val d _ _ _ _ _ _ _ _ (HP.out _) (by assumption))) | (go_at_call 127; exact aft_q (name1_val _ _ _ HTI.out (by assumption))) | (go_at_call 128; exact aft_b (patch1_val _ _ _ _ (HE.out _) HSZ.out (by assumption))) | (go_at_call 129; exact aft_b (span1_val _ _ _ _ _ (by assumption))))))
            refine wpQuiet_nil ?_
            rintro _ ⟨y, rfl⟩
            go_wp2
            go_ret
            exact ⟨by rw [OK.out, h0, h1, h2, h3, h4]; rfl, y.ok⟩
          | true =>
            have e4 : decide (0 < d.patch.length) = true := by rw [← h4]; exact decide_eq_decide.2 (by omega)
            cases h5 : okPatch d.patch with
            | false =>
              refine calls_aft fun x0 => ?_
              go_enter Tryz.func81, Tryz.ntmps81
              go_wp2_with (first | (go_at_call 48; refine (aft_q (in1_val _ _ _ _ _ (by assumption))).mono ?_; rintro e _ ⟨rfl, y, rfl⟩) | (go_at_call 107; refine (aft_b (trust1_val _ _ _ _ _ _ (HT.out _) (by omega) (by omega) (by assumption))).mono ?_; rintro e _ ⟨rfl, y, rfl⟩) | (go_at_call 126; refine (aft_b (plain1_val d _ _ _ _ _ _ _ _ (HP.out _) (by assumption))).mono ?_; rintro e _ ⟨rfl, y, rfl⟩) | (go_at_call 127; refine (aft_q (name1_val _ _ _ HTI.out (by assumption))).mono ?_; rintro e _ ⟨rfl, y, rfl⟩) | (go_at_call 128; refine (aft_b (patch1_val _ _ _ _ (HE.out _) HSZ.out (by assumption))).mono ?_; rintro e _ ⟨rfl, y, rfl⟩) | (go_at_call 129; refine (aft_b (span1_val _ _ _ _ _ (by assumption))).mono ?_; rintro e _ ⟨rfl, y, rfl⟩))
              refine wp_region_at (by kernel_rfl) (by kernel_rfl) ?_
              repeat (go_big_quiet_step ((first | (go_at_call 48; exact aft_q (in1_val _ _ _ _ _ (by assumption))) | (go_at_call 107; exact aft_b (trust1_val _ _ _ _ _ _ (HT.out _) (by omega) (by omega) (by assumption))) | (go_at_call 126; exact aft_b (plain1_val d _ _ _ _ _ _ _ _ (HP.out _) (by assumption))) | (go_at_call 127; exact aft_q (name1_val _ _ _ HTI.out (by assumption))) | (go_at_call 128; exact aft_b (patch1_val _ _ _ _ (HE.out _) HSZ.out (by assumption))) | (go_at_call 129; exact aft_b (span1_val _ _ _ _ _ (by assumption))))))
              refine wpQuiet_nil ?_
              rintro _ ⟨y, rfl⟩
              go_wp2
              go_ret
              exact ⟨by rw [OK.out, h0, h1, h2, h3, h4, h5]; rfl, y.ok⟩
            | true =>
              cases h6 : spanB d.start d.until_ d.closes with
              | false =>
                refine calls_aft fun x0 => ?_
                go_enter Tryz.func81, Tryz.ntmps81
                go_wp2_with (first | (go_at_call 48; refine (aft_q (in1_val _ _ _ _ _ (by assumption))).mono ?_; rintro e _ ⟨rfl, y, rfl⟩) | (go_at_call 107; refine (aft_b (trust1_val _ _ _ _ _ _ (HT.out _) (by omega) (by omega) (by assumption))).mono ?_; rintro e _ ⟨rfl, y, rfl⟩) | (go_at_call 126; refine (aft_b (plain1_val d _ _ _ _ _ _ _ _ (HP.out _) (by assumption))).mono ?_; rintro e _ ⟨rfl, y, rfl⟩) | (go_at_call 127; refine (aft_q (name1_val _ _ _ HTI.out (by assumption))).mono ?_; rintro e _ ⟨rfl, y, rfl⟩) | (go_at_call 128; refine (aft_b (patch1_val _ _ _ _ (HE.out _) HSZ.out (by assumption))).mono ?_; rintro e _ ⟨rfl, y, rfl⟩) | (go_at_call 129; refine (aft_b (span1_val _ _ _ _ _ (by assumption))).mono ?_; rintro e _ ⟨rfl, y, rfl⟩))
                refine wp_region_at (by kernel_rfl) (by kernel_rfl) ?_
                repeat (go_big_quiet_step ((first | (go_at_call 48; exact aft_q (in1_val _ _ _ _ _ (by assumption))) | (go_at_call 107; exact aft_b (trust1_val _ _ _ _ _ _ (HT.out _) (by omega) (by omega) (by assumption))) | (go_at_call 126; exact aft_b (plain1_val d _ _ _ _ _ _ _ _ (HP.out _) (by assumption))) | (go_at_call 127; exact aft_q (name1_val _ _ _ HTI.out (by assumption))) | (go_at_call 128; exact aft_b (patch1_val _ _ _ _ (HE.out _) HSZ.out (by assumption))) | (go_at_call 129; exact aft_b (span1_val _ _ _ _ _ (by assumption))))))
                refine wpQuiet_nil ?_
                rintro _ ⟨y, rfl⟩
                go_wp2
                go_ret
                exact ⟨by rw [OK.out, h0, h1, h2, h3, h4, h5, h6]; rfl, y.ok⟩
              | true =>
                refine calls_aft fun x0 => ?_
                go_enter Tryz.func81, Tryz.ntmps81
                go_wp2_with (first | (go_at_call 48; refine (aft_q (in1_val _ _ _ _ _ (by assumption))).mono ?_; rintro e _ ⟨rfl, y, rfl⟩) | (go_at_call 107; refine (aft_b (trust1_val _ _ _ _ _ _ (HT.out _) (by omega) (by omega) (by assumption))).mono ?_; rintro e _ ⟨rfl, y, rfl⟩) | (go_at_call 126; refine (aft_b (plain1_val d _ _ _ _ _ _ _ _ (HP.out _) (by assumption))).mono ?_; rintro e _ ⟨rfl, y, rfl⟩) | (go_at_call 127; refine (aft_q (name1_val _ _ _ HTI.out (by assumption))).mono ?_; rintro e _ ⟨rfl, y, rfl⟩) | (go_at_call 128; refine (aft_b (patch1_val _ _ _ _ (HE.out _) HSZ.out (by assumption))).mono ?_; rintro e _ ⟨rfl, y, rfl⟩) | (go_at_call 129; refine (aft_b (span1_val _ _ _ _ _ (by assumption))).mono ?_; rintro e _ ⟨rfl, y, rfl⟩))
                refine wp_region_at (by kernel_rfl) (by kernel_rfl) ?_
                repeat (go_big_quiet_step ((first | (go_at_call 48; exact aft_q (in1_val _ _ _ _ _ (by assumption))) | (go_at_call 107; exact aft_b (trust1_val _ _ _ _ _ _ (HT.out _) (by omega) (by omega) (by assumption))) | (go_at_call 126; exact aft_b (plain1_val d _ _ _ _ _ _ _ _ (HP.out _) (by assumption))) | (go_at_call 127; exact aft_q (name1_val _ _ _ HTI.out (by assumption))) | (go_at_call 128; exact aft_b (patch1_val _ _ _ _ (HE.out _) HSZ.out (by assumption))) | (go_at_call 129; exact aft_b (span1_val _ _ _ _ _ (by assumption))))))
                refine wpQuiet_nil ?_
                rintro _ ⟨y, rfl⟩
                go_wp2
                go_ret
                exact ⟨by rw [OK.out, h0, h1, h2, h3, h4, h5, h6]; rfl, y.ok⟩
set_option maxRecDepth 100000 in
set_option maxHeartbeats 8000000 in
theorem deed1_k4 (d : Deed) (b o : Nat) (A1 : Option Addr) (c1 : Nat) (A2 : Option Addr) (c2 : Nat) (w : World) (h : DeedP w b o d A1 c1 A2 c2) (hk : d.kind = 4) :
    Calls Tryz.prog 81 #[.pointer (some ⟨b, o, none⟩)] w (RetB (.bool (okDeed d)) w) := by
  have z0 := fun y : Aft w => y.cell h.k0
  have z1 := fun y : Aft w => y.cell h.k1
  have z2 := fun y : Aft w => y.cell h.k2
  have z3 := fun y : Aft w => y.cell h.k3
  have z4 := fun y : Aft w => y.cell h.k4
  have z5 := fun y : Aft w => y.cell h.k5
  have z6 := fun y : Aft w => y.cell h.k6
  have z7 := fun y : Aft w => y.cell h.k7
  have z8 := fun y : Aft w => y.cell h.k8
  have HT := Lib.hid (fun y : Aft w => (h.aft y).ints)
  have HE := Lib.hid (fun y : Aft w => (h.aft y).edits)
  have HP := Lib.hid (fun y : Aft w => h.aft y)
  have HSZ := Lib.hid h.sizes
  have HTI := Lib.hid h.title
  have OK := Lib.hid (okDeed_4s hk)
  have b1 : (d.kind == 1) = false := by simp [hk]
  have b2 : (d.kind == 2) = false := by simp [hk]
  have b3 : (d.kind == 3) = false := by simp [hk]
  have b4 : (d.kind == 4) = true := by simp [hk]
  clear h hk
  obtain ⟨rm, hm⟩ : ∃ r, inB d.member 0 11 = r := ⟨_, rfl⟩
  cases h0 : (d.member == 0) with
  | false =>
    refine calls_aft fun x0 => ?_
    go_enter Tryz.func81, Tryz.ntmps81
    go_wp2_with (first | (go_at_call 48; refine (aft_q (in1_val _ _ _ _ _ (by assumption))).mono ?_; rintro e _ ⟨rfl, y, rfl⟩) | (go_at_call 107; refine (aft_b (trust1_val _ _ _ _ _ _ (HT.out _) (by omega) (by omega) (by assumption))).mono ?_; rintro e _ ⟨rfl, y, rfl⟩) | (go_at_call 126; refine (aft_b (plain1_val d _ _ _ _ _ _ _ _ (HP.out _) (by assumption))).mono ?_; rintro e _ ⟨rfl, y, rfl⟩) | (go_at_call 127; refine (aft_q (name1_val _ _ _ HTI.out (by assumption))).mono ?_; rintro e _ ⟨rfl, y, rfl⟩) | (go_at_call 128; refine (aft_b (patch1_val _ _ _ _ (HE.out _) HSZ.out (by assumption))).mono ?_; rintro e _ ⟨rfl, y, rfl⟩) | (go_at_call 129; refine (aft_b (span1_val _ _ _ _ _ (by assumption))).mono ?_; rintro e _ ⟨rfl, y, rfl⟩))
    go_ret
    exact ⟨by rw [OK.out, h0]; rfl, y.ok⟩
  | true =>
    cases h1 : ((d.trust.length : Int) == 0) with
    | false =>
      refine calls_aft fun x0 => ?_
      go_enter Tryz.func81, Tryz.ntmps81
      go_wp2_with (first | (go_at_call 48; refine (aft_q (in1_val _ _ _ _ _ (by assumption))).mono ?_; rintro e _ ⟨rfl, y, rfl⟩) | (go_at_call 107; refine (aft_b (trust1_val _ _ _ _ _ _ (HT.out _) (by omega) (by omega) (by assumption))).mono ?_; rintro e _ ⟨rfl, y, rfl⟩) | (go_at_call 126; refine (aft_b (plain1_val d _ _ _ _ _ _ _ _ (HP.out _) (by assumption))).mono ?_; rintro e _ ⟨rfl, y, rfl⟩) | (go_at_call 127; refine (aft_q (name1_val _ _ _ HTI.out (by assumption))).mono ?_; rintro e _ ⟨rfl, y, rfl⟩) | (go_at_call 128; refine (aft_b (patch1_val _ _ _ _ (HE.out _) HSZ.out (by assumption))).mono ?_; rintro e _ ⟨rfl, y, rfl⟩) | (go_at_call 129; refine (aft_b (span1_val _ _ _ _ _ (by assumption))).mono ?_; rintro e _ ⟨rfl, y, rfl⟩))
      go_ret
      exact ⟨by rw [OK.out, h0, h1]; rfl, y.ok⟩
    | true =>
      cases h2 : d.title.toList.isEmpty with
      | false =>
        refine calls_aft fun x0 => ?_
        go_enter Tryz.func81, Tryz.ntmps81
        go_wp2_with (first | (go_at_call 48; refine (aft_q (in1_val _ _ _ _ _ (by assumption))).mono ?_; rintro e _ ⟨rfl, y, rfl⟩) | (go_at_call 107; refine (aft_b (trust1_val _ _ _ _ _ _ (HT.out _) (by omega) (by omega) (by assumption))).mono ?_; rintro e _ ⟨rfl, y, rfl⟩) | (go_at_call 126; refine (aft_b (plain1_val d _ _ _ _ _ _ _ _ (HP.out _) (by assumption))).mono ?_; rintro e _ ⟨rfl, y, rfl⟩) | (go_at_call 127; refine (aft_q (name1_val _ _ _ HTI.out (by assumption))).mono ?_; rintro e _ ⟨rfl, y, rfl⟩) | (go_at_call 128; refine (aft_b (patch1_val _ _ _ _ (HE.out _) HSZ.out (by assumption))).mono ?_; rintro e _ ⟨rfl, y, rfl⟩) | (go_at_call 129; refine (aft_b (span1_val _ _ _ _ _ (by assumption))).mono ?_; rintro e _ ⟨rfl, y, rfl⟩))
        go_ret
        exact ⟨by rw [OK.out, h0, h1, h2]; rfl, y.ok⟩
      | true =>
        cases h3 : (d.vote == 0) with
        | false =>
          refine calls_aft fun x0 => ?_
          go_enter Tryz.func81, Tryz.ntmps81
          go_wp2_with (first | (go_at_call 48; refine (aft_q (in1_val _ _ _ _ _ (by assumption))).mono ?_; rintro e _ ⟨rfl, y, rfl⟩) | (go_at_call 107; refine (aft_b (trust1_val _ _ _ _ _ _ (HT.out _) (by omega) (by omega) (by assumption))).mono ?_; rintro e _ ⟨rfl, y, rfl⟩) | (go_at_call 126; refine (aft_b (plain1_val d _ _ _ _ _ _ _ _ (HP.out _) (by assumption))).mono ?_; rintro e _ ⟨rfl, y, rfl⟩) | (go_at_call 127; refine (aft_q (name1_val _ _ _ HTI.out (by assumption))).mono ?_; rintro e _ ⟨rfl, y, rfl⟩) | (go_at_call 128; refine (aft_b (patch1_val _ _ _ _ (HE.out _) HSZ.out (by assumption))).mono ?_; rintro e _ ⟨rfl, y, rfl⟩) | (go_at_call 129; refine (aft_b (span1_val _ _ _ _ _ (by assumption))).mono ?_; rintro e _ ⟨rfl, y, rfl⟩))
          go_ret
          exact ⟨by rw [OK.out, h0, h1, h2, h3]; rfl, y.ok⟩
        | true =>
          cases h4 : plainB d with
          | false =>
            refine calls_aft fun x0 => ?_
            go_enter Tryz.func81, Tryz.ntmps81
            go_wp2_with (first | (go_at_call 48; refine (aft_q (in1_val _ _ _ _ _ (by assumption))).mono ?_; rintro e _ ⟨rfl, y, rfl⟩) | (go_at_call 107; refine (aft_b (trust1_val _ _ _ _ _ _ (HT.out _) (by omega) (by omega) (by assumption))).mono ?_; rintro e _ ⟨rfl, y, rfl⟩) | (go_at_call 126; refine (aft_b (plain1_val d _ _ _ _ _ _ _ _ (HP.out _) (by assumption))).mono ?_; rintro e _ ⟨rfl, y, rfl⟩) | (go_at_call 127; refine (aft_q (name1_val _ _ _ HTI.out (by assumption))).mono ?_; rintro e _ ⟨rfl, y, rfl⟩) | (go_at_call 128; refine (aft_b (patch1_val _ _ _ _ (HE.out _) HSZ.out (by assumption))).mono ?_; rintro e _ ⟨rfl, y, rfl⟩) | (go_at_call 129; refine (aft_b (span1_val _ _ _ _ _ (by assumption))).mono ?_; rintro e _ ⟨rfl, y, rfl⟩))
            go_ret
            exact ⟨by rw [OK.out, h0, h1, h2, h3, h4]; rfl, y.ok⟩
          | true =>
            refine calls_aft fun x0 => ?_
            go_enter Tryz.func81, Tryz.ntmps81
            go_wp2_with (first | (go_at_call 48; refine (aft_q (in1_val _ _ _ _ _ (by assumption))).mono ?_; rintro e _ ⟨rfl, y, rfl⟩) | (go_at_call 107; refine (aft_b (trust1_val _ _ _ _ _ _ (HT.out _) (by omega) (by omega) (by assumption))).mono ?_; rintro e _ ⟨rfl, y, rfl⟩) | (go_at_call 126; refine (aft_b (plain1_val d _ _ _ _ _ _ _ _ (HP.out _) (by assumption))).mono ?_; rintro e _ ⟨rfl, y, rfl⟩) | (go_at_call 127; refine (aft_q (name1_val _ _ _ HTI.out (by assumption))).mono ?_; rintro e _ ⟨rfl, y, rfl⟩) | (go_at_call 128; refine (aft_b (patch1_val _ _ _ _ (HE.out _) HSZ.out (by assumption))).mono ?_; rintro e _ ⟨rfl, y, rfl⟩) | (go_at_call 129; refine (aft_b (span1_val _ _ _ _ _ (by assumption))).mono ?_; rintro e _ ⟨rfl, y, rfl⟩))
            go_ret
            exact ⟨by rw [OK.out, h0, h1, h2, h3, h4]; rfl, y.ok⟩
end Go.Proofs.YtnandbammmcncaaGreat

namespace Go.Proofs.YtnandbammmcncaaGreat
open Go.RowKit Go.Lib

/-- The digits of a number, none for zero. -/
def dg (u : Nat) : List UInt8 := if u = 0 then [] else decDigits u

theorem dg_step (u : Nat) (h : ¬ u = 0) : dg u = dg (u / 10) ++ [UInt8.ofNat (48 + u % 10)] := by
  unfold dg
  rw [if_neg h]
  by_cases h10 : u < 10
  · rw [if_pos (by omega), decDigits, dif_pos h10, Nat.mod_eq_of_lt h10]; rfl
  · rw [if_neg (by omega), decDigits, dif_neg h10]
theorem len20 (a b : List UInt8) (n : Int) (h : a ++ b = itoa n) (h1 : -9223372036854775808 ≤ n) (h2 : n ≤ 9223372036854775807) : b.length ≤ 21 := by
  have := itoa_length_le n h1 h2
  rw [← h, List.length_append] at this
  omega
theorem dg_pos (n : Int) (h : 0 < n) : dg n.toNat = itoa n := by
  unfold dg itoa
  rw [if_neg (by omega), if_neg (by omega)]
end Go.Proofs.YtnandbammmcncaaGreat
