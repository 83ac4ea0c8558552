/- Walks over later worlds: every world after W is 'x.val' for some x : Aft W; what is laid once for all of them holds at each step. -/
import Derived.Test.YthlfpiflegfoiaaGreatDoorMem
namespace Go.Proofs.YthlfpiflegfoiaaGreatDoor
open Go.RowKit

theorem calls_aft {P : Program} {f : FuncId} {args : Array Value} {w : World} {R : Ending → World → Prop} (h : ∀ x : Aft w, Calls P f args x.val R) : Calls P f args w R :=
  h ⟨w, Below.refl _ _⟩
theorem wp_aft {P : Program} {c : Code} {Q : Exit → Act → World → Prop} {a : Act} {W : World} (h : ∀ x : Aft W, c.wp P Q a x.val) : c.wp P Q a W :=
  h ⟨W, Below.refl _ _⟩
/-- A region that draws its order, at a later world. -/
theorem wp_region_at {P : Program} {id : Nat} {Q : Exit → Act → World → Prop} {a : Act} {W : World} {x : Aft W} {l : List Oper} (hm : P.follows .mixedOrders = true) (hB : Region.lexB .any l.toArray = true)
    (h : wpQuiet P l.toArray (fun w' => ∃ x : Aft W, w' = x.val) (fun a' => ∀ w', (∃ x : Aft W, w' = x.val) → Q .normal a' w') l a) : (Code.region id l.toArray true).wp P Q a x.val :=
  wp_region_quiet (C := fun w' => ∃ x : Aft W, w' = x.val) hm hB ⟨⟨x.val.drew, x.ok.drew⟩, rfl⟩ (by simpa using h)

def Aft.old {w : World} {o : Obj} (y : Aft (w.alloc o)) : Aft w := ⟨y.val, ((Below.refl w.heap.size w).alloc (Nat.le_refl _) o).trans (y.ok.mono (by simp))⟩
def Aft.of {w : World} (x : Aft w) (y : Aft x.val) : Aft w := ⟨y.val, x.ok.trans (y.ok.mono x.ok.size)⟩
theorem aft_lift {w : World} {o : Obj} {p : World → Prop} (h : ∀ x : Aft w, p x.val) : ∀ y : Aft (w.alloc o), p y.val := fun y => h y.old
theorem aft_new {w : World} {cs : Array Value} {t : TypeId} (j : Nat) (v : Value) (h : cs[j]? = some v) : ∀ y : Aft (w.alloc (.cells cs t)), y.val.cell? ⟨w.heap.size, j, none⟩ = some v :=
  fun y => y.cell (by simpa [go_sem] using h)
theorem aft_done {w W : World} (h : Below w.heap.size w W) (x : Aft W) : Below w.heap.size w x.val := h.trans (x.ok.mono h.size)
theorem aft_size {W : World} {b o : Nat} {v : Value} (h : W.cell? ⟨b, o, none⟩ = some v) : ∀ x : Aft W, b < x.val.heap.size := fun x => World.block_lt_of_cell? x.val ⟨b, o, none⟩ (x.cell h)
theorem SlR.aft {α : Type} {R : World → Nat → List Value → α → Prop} {size : Nat} {W : World} {B : Nat} {v : Value} {xs : List α} (h : SlR R size W B v xs) (hR : Stays R) (hB : B ≤ W.heap.size) : ∀ x : Aft W, SlR R size x.val x.val.heap.size v xs :=
  fun x => h.on hR (x.ok.mono hB) (Nat.le_trans hB x.ok.size)
theorem retB_aft {P : Program} {f : FuncId} {args : Array Value} {W : World} {x : Aft W} {v : Value} (h : Calls P f args x.val (RetB v x.val)) : Calls P f args x.val fun e w'' => e = .returned v ∧ ∃ y : Aft W, w'' = y.val := aft_b h
theorem retQ_b {P : Program} {f : FuncId} {args : Array Value} {w : World} {v : Value} (h : Calls P f args w (RetQ v w)) : Calls P f args w (RetB v w) :=
  h.mono fun _ _ ⟨he, k, hk⟩ => ⟨he, hk ▸ below_drewN (Below.refl _ _) k⟩

end Go.Proofs.YthlfpiflegfoiaaGreatDoor
