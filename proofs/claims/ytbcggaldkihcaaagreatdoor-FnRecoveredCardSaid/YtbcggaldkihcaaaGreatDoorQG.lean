/- FnExactValidAssembly, walked. -/
import Derived.Test.YtbcggaldkihcaaaGreatDoorQF
namespace Go.Proofs.YtbcggaldkihcaaaGreatDoor
open Tryz
open Go.RowKit Go.Lib
theorem rN.nn {a:cp} (h:rN a):ua a where
 b:=λx hx=>Nat.le_trans (h.b x hx) (by unfold maxLen;omega)
 c:=λx hx e he=>⟨Nat.le_trans ((h.c x hx).2 e he).1 (by unfold maxLen;omega),Nat.le_trans ((h.c x hx).2 e he).2 (by unfold maxLen;omega)⟩
 m:=λx hx=>⟨Nat.le_trans (h.m x hx).1 (by unfold maxLen;omega),λe he=>⟨Nat.le_trans ((h.m x hx).2.2.1 e he).1 (by unfold maxLen;omega),Nat.le_trans ((h.m x hx).2.2.1 e he).2 (by unfold maxLen;omega)⟩⟩
def Om (W:World) (g:Nat) (a:cp) (x:cS):Prop:=Row W g [.int .i64 a.day,.int .i64 a.rule,x.t,x.b,x.c,x.m]
theorem Om.below {W W':World} {g:Nat} {a:cp} {x:cS} (h:Om W g a x) (hb:Below W.heap.size W W'):Om W' g a x:=
 Row.below h hb (World.block_lt_of_cell? W ⟨g,0,none⟩ (h.cell 0 _ rfl))
def Uw (W:World) (g:Nat) (a:cp) (x:cS):Prop:=W.cell? ⟨g,0,none⟩=some (.int .i64 a.day)/\W.cell? ⟨g,1,none⟩=some (.int .i64 a.rule)/\W.cell? ⟨g,2,none⟩=some x.t/\W.cell? ⟨g,3,none⟩=some x.b/\W.cell? ⟨g,4,none⟩=some x.c/\W.cell? ⟨g,5,none⟩=some x.m
theorem Om.c {W:World} {g:Nat} {a:cp} {x:cS} (h:Om W g a x):Uw W g a x:=⟨h.cell 0 _ rfl,h.cell 1 _ rfl,h.cell 2 _ rfl,h.cell 3 _ rfl,h.cell 4 _ rfl,h.cell 5 _ rfl⟩
theorem Om.new (w:World) (a:cp) (x:cS) (t:TypeId):Om (w.alloc (.cells #[.int .i64 a.day,.int .i64 a.rule,x.t,x.b,x.c,x.m] t)) w.heap.size a x:=Row.new w _ _
end Go.Proofs.YtbcggaldkihcaaaGreatDoor
