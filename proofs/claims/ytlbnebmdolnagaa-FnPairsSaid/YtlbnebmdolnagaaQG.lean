/- FnExactValidAssembly, walked. -/
import Derived.Test.YtlbnebmdolnagaaQF
namespace Go.Proofs.Ytlbnebmdolnagaa
open Go.RowKit Go.Lib

theorem AsmFits.sz {a : Asm} (h : AsmFits a) : AsmSz a where
  b := fun x hx => Nat.le_trans (h.b x hx) (by unfold maxLen; omega)
  c := fun x hx e he => ⟨Nat.le_trans ((h.c x hx).2 e he).1 (by unfold maxLen; omega), Nat.le_trans ((h.c x hx).2 e he).2 (by unfold maxLen; omega)⟩
  m := fun x hx => ⟨Nat.le_trans (h.m x hx).1 (by unfold maxLen; omega), fun e he => ⟨Nat.le_trans ((h.m x hx).2.2.1 e he).1 (by unfold maxLen; omega), Nat.le_trans ((h.m x hx).2.2.1 e he).2 (by unfold maxLen; omega)⟩⟩
/-- The six cells of an assembly's own variable. -/
def Six (W : World) (g : Nat) (a : Asm) (x : VAsm) : Prop := Row W g [.int .i64 a.day, .int .i64 a.rule, x.t, x.b, x.c, x.m]
theorem Six.below {W W' : World} {g : Nat} {a : Asm} {x : VAsm} (h : Six W g a x) (hb : Below W.heap.size W W') : Six W' g a x :=
  Row.below h hb (World.block_lt_of_cell? W ⟨g, 0, none⟩ (h.cell 0 _ rfl))
def SixC (W : World) (g : Nat) (a : Asm) (x : VAsm) : Prop := W.cell? ⟨g, 0, none⟩ = some (.int .i64 a.day) ∧ W.cell? ⟨g, 1, none⟩ = some (.int .i64 a.rule) ∧ W.cell? ⟨g, 2, none⟩ = some x.t ∧ W.cell? ⟨g, 3, none⟩ = some x.b ∧ W.cell? ⟨g, 4, none⟩ = some x.c ∧ W.cell? ⟨g, 5, none⟩ = some x.m
theorem Six.c {W : World} {g : Nat} {a : Asm} {x : VAsm} (h : Six W g a x) : SixC W g a x := ⟨h.cell 0 _ rfl, h.cell 1 _ rfl, h.cell 2 _ rfl, h.cell 3 _ rfl, h.cell 4 _ rfl, h.cell 5 _ rfl⟩
theorem Six.new (w : World) (a : Asm) (x : VAsm) (t : TypeId) : Six (w.alloc (.cells #[.int .i64 a.day, .int .i64 a.rule, x.t, x.b, x.c, x.m] t)) w.heap.size a x := Row.new w _ _

end Go.Proofs.Ytlbnebmdolnagaa
