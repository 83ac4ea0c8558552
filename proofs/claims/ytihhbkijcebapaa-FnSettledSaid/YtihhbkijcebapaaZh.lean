/- The day of an assembly of the call's own, walked: the program's. -/
import Derived.Test.YtihhbkijcebapaaZg
import Derived.Test.YtihhbkijcebapaaZo
namespace Go.Proofs.Ytihhbkijcebapaa
open Go.RowKit Go.Lib

/-- The fields of an assembly's value are slices. -/
def SlF (x : VAsm) : Prop := ∃ At n1 ct Ab n2 cb Ac n3 cc Am n4 cm, x = ⟨.slice At n1 ct, .slice Ab n2 cb, .slice Ac n3 cc, .slice Am n4 cm⟩
/-- The blocks of Z keep their rows. -/
def Keep (Z : Nat → Prop) (w w' : World) : Prop := ∀ z, Z z → ∀ zs, Row w z zs → Row w' z zs
theorem Keep.of {Z : Nat → Prop} {w w' : World} (hz : ∀ z, Z z → z < w.heap.size) (hb : Below w.heap.size w w') : Keep Z w w' := fun z h _ hr => hr.below hb (hz z h)
theorem Keep.touch {Z F : Nat → Prop} {w W W' : World} (h : Keep Z w W) (hz : ∀ z, Z z → z < W.heap.size) (ht : Touch F W W') (hF : ∀ z, Z z → ¬ F z) : Keep Z w W' := fun z hZ zs hr => (h z hZ zs hr).touch (hz z hZ) ht (hF z hZ)
theorem Keep.below {Z : Nat → Prop} {w W W' : World} (h : Keep Z w W) (hz : ∀ z, Z z → z < W.heap.size) (hb : Below W.heap.size W W') : Keep Z w W' := fun z hZ zs hr => (h z hZ zs hr).below hb (hz z hZ)
theorem Keep.far {Z : Nat → Prop} {w W : World} {p : Addr} (h : Keep Z w W) (v : Value) (hne : ∀ z, Z z → p.block ≠ z) : Keep Z w (W.setCell p v) := fun z hZ zs hr => (h z hZ zs hr).far v (hne z hZ)
theorem okRep {m : Mot} {day n : Int} (h : MotOk m day n) (d' : Int) (hd : m.closes = d') (k : Nat) : (List.replicate k (setR m 1)).length = k ∧ ∀ (j : Nat) (q : Mot), (List.replicate k (setR m 1))[j]? = some q → okMot q d' n = true :=
  ⟨List.length_replicate, fun j q hq => by
    rw [List.eq_of_mem_replicate (List.mem_of_getElem? hq)]
    exact okMot_iff.2 ⟨h.name, h.a0, h.a1, h.p0, h.pat, h.span, h.len, h.votes, by show (0 : Int) ≤ 1; omega, by show (1 : Int) ≤ 4; omega, by show (1 : Int) = 0 ↔ d' < m.closes; omega⟩⟩

end Go.Proofs.Ytihhbkijcebapaa
