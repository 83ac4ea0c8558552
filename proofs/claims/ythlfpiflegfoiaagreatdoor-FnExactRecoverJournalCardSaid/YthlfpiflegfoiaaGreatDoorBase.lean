/- What all walks share: the posts of contracts, and small laws on worlds. -/
import Derived.Test.YthlfpiflegfoiaaGreatDoorProg
import Derived.WalkKit
import Derived.WalkSpells
import Derived.WalkLawsBesides
import Derived.Deep.QuietTactic
import Derived.BigQuiet
import Derived.Lib.Hide
import Derived.Deep.DeepCutAuto
import Derived.Deep.RegionHeld3
namespace Go.Proofs.YthlfpiflegfoiaaGreatDoor
open Go.RowKit

/-- Only block b and what is new has turned. -/
def Only (b : Nat) (w w' : World) : Prop := w.grownBy w' (some b)

theorem only_drewN {w w' : World} {b : Nat} (h : Only b w w') (n : Nat) : Only b w (w'.drewN n) := ⟨h.os, h.tape, h.output, h.size, h.block⟩
theorem only_refl (b : Nat) (w : World) : Only b w w := ⟨rfl, rfl, rfl, Nat.le_refl _, fun _ _ _ => rfl⟩
theorem only_trans {a b c : World} {g : Nat} (h : Only g a b) (k : Only g b c) : Only g a c :=
  ⟨k.os.trans h.os, k.tape.trans h.tape, k.output.trans h.output, Nat.le_trans h.size k.size, fun i hi hn => (k.block i (Nat.lt_of_lt_of_le hi h.size) hn).trans (h.block i hi hn)⟩
theorem only_setCell {a w : World} {g : Nat} (h : Only g a w) {p : Addr} (hp : p.block = g ∨ a.heap.size ≤ p.block) (u : Value) : Only g a (w.setCell p u) :=
  ⟨h.os, h.tape, h.output, by simpa [World.setCell] using h.size, fun i hi hne => (Below.heap_setCell w p u i (by
    rintro rfl
    rcases hp with hp | hp
    · exact hne (by rw [hp])
    · omega)).trans (h.block i hi hne)⟩
theorem only_below {a w : World} {g B : Nat} (h : Only g a w) (hB : B ≤ g) (hs : B ≤ a.heap.size) : Below B a w :=
  ⟨h.os, h.tape, h.output, h.size, fun i hi => h.block i (by omega) (fun e => by injection e; omega)⟩

theorem only_cells {b : Nat} {w w1 : World} (h : Only b w w1) (c o : Nat) (hc : c < w.heap.size) (hne : c ≠ b) : w1.cell? ⟨c, o, none⟩ = w.cell? ⟨c, o, none⟩ ∧ w1.frozen? ⟨c, o, none⟩ = w.frozen? ⟨c, o, none⟩ := by
  have e : w1.heap[c]? = w.heap[c]? := h.block c hc (fun e => hne (by injection e))
  exact ⟨World.cell?_of_block e, World.frozen?_of_block e⟩

theorem ret_i64 {a b : Int} (h : a = b) : Ending.returned (.int .i64 a) = .returned (.int .i64 b) := by rw [h]

def RetInt (n : Int) (w : World) (e : Ending) (w' : World) : Prop := e = .returned (.int .i64 n) ∧ w = w'

theorem below_drewN {B : Nat} {a w : World} (h : Below B a w) (n : Nat) : Below B a (w.drewN n) := ⟨h.os, h.tape, h.output, h.size, h.block⟩
theorem bcell {W w1 : World} (hb : Below W.heap.size W w1) : (∀ b o, b < W.heap.size → w1.cell? ⟨b, o, none⟩ = W.cell? ⟨b, o, none⟩) ∧ (∀ b o, b < W.heap.size → w1.frozen? ⟨b, o, none⟩ = W.frozen? ⟨b, o, none⟩) :=
  ⟨fun b o h => hb.cell (p := ⟨b, o, none⟩) h, fun b o h => hb.frozen (p := ⟨b, o, none⟩) h⟩
def RetQ (v : Value) (w : World) (e : Ending) (w' : World) : Prop := e = .returned v ∧ ∃ k, w' = w.drewN k
def RetB (v : Value) (w : World) (e : Ending) (w' : World) : Prop := e = .returned v ∧ Below w.heap.size w w'

theorem quiet_q {P : Program} {f : FuncId} {args : Array Value} {w : World} {n : Nat} {v : Value} (h : Calls P f args (w.drewN n) (RetQ v (w.drewN n))) :
    Calls P f args (w.drewN n) fun e w'' => e = .returned v ∧ ∃ m, w'' = w.drewN m :=
  h.mono fun _ _ ⟨he, m, hm⟩ => ⟨he, n + m, by rw [hm, World.drewN_drewN]⟩
theorem retQ_of {P : Program} {f : FuncId} {args : Array Value} {w : World} {n : Int} (h : Calls P f args w (RetInt n w)) : Calls P f args w (RetQ (.int .i64 n) w) :=
  h.mono fun _ _ ⟨he, hw⟩ => ⟨he, 0, hw ▸ rfl⟩

/-- A world in which all that was in W is as it was. -/
structure Aft (W : World) where
  val : World
  ok : Below W.heap.size W val

instance aft_ne (W : World) : Nonempty (Aft W) := ⟨⟨W, Below.refl _ _⟩⟩

theorem Aft.cell {W : World} (x : Aft W) {b o : Nat} {v : Value} (h : W.cell? ⟨b, o, none⟩ = some v) : x.val.cell? ⟨b, o, none⟩ = some v := by
  have hb : b < W.heap.size := World.block_lt_of_cell? W ⟨b, o, none⟩ h
  exact (x.ok.cell (p := ⟨b, o, none⟩) hb).trans h
theorem Aft.frozen {W : World} (x : Aft W) {b o : Nat} (hb : b < W.heap.size) : x.val.frozen? ⟨b, o, none⟩ = W.frozen? ⟨b, o, none⟩ := x.ok.frozen (p := ⟨b, o, none⟩) hb

/-- A region that draws its order, whose operations read and whose calls leave what was as it was: one walk in the text's order. -/
theorem wp_region_aft {P : Program} {id : Nat} {Q : Exit → Act → World → Prop} {a : Act} {W : World} {l : List Oper} (hm : P.follows .mixedOrders = true) (hB : Region.lexB .any l.toArray = true)
    (h : wpQuiet P l.toArray (fun w' => ∃ x : Aft W, w' = x.val) (fun a' => ∀ w', (∃ x : Aft W, w' = x.val) → Q .normal a' w') l a) : (Code.region id l.toArray true).wp P Q a W :=
  wp_region_quiet (C := fun w' => ∃ x : Aft W, w' = x.val) hm hB ⟨⟨W.drew, (Below.refl _ _).drew⟩, rfl⟩ (by simpa using h)

theorem aft_b {P : Program} {f : FuncId} {args : Array Value} {W : World} {x : Aft W} {v : Value} (h : Calls P f args x.val (RetB v x.val)) :
    Calls P f args x.val fun e w'' => e = .returned v ∧ ∃ y : Aft W, w'' = y.val :=
  h.mono fun _ w'' ⟨he, hb⟩ => ⟨he, ⟨w'', x.ok.trans (hb.mono x.ok.size)⟩, rfl⟩
theorem aft_q {P : Program} {f : FuncId} {args : Array Value} {W : World} {x : Aft W} {v : Value} (h : Calls P f args x.val (RetQ v x.val)) :
    Calls P f args x.val fun e w'' => e = .returned v ∧ ∃ y : Aft W, w'' = y.val :=
  h.mono fun _ w'' ⟨he, k, hk⟩ => ⟨he, ⟨w'', by rw [hk]; exact below_drewN x.ok k⟩, rfl⟩

def inB (n a b : Int) : Bool := decide (a ≤ n) && decide (n ≤ b)
theorem inB_true {n a b : Int} (h1 : a ≤ n) (h2 : n ≤ b) : inB n a b = true := by unfold inB; simp [h1, h2]
theorem inB_false {n a b : Int} (h : n < a ∨ b < n) : inB n a b = false := by
  unfold inB
  rcases h with h | h
  · have : ¬ a ≤ n := by omega
    simp [this]
  · have : ¬ n ≤ b := by omega
    simp [this]
theorem inB_iff {n a b : Int} : inB n a b = true ↔ a ≤ n ∧ n ≤ b := by unfold inB; simp

end Go.Proofs.YthlfpiflegfoiaaGreatDoor
