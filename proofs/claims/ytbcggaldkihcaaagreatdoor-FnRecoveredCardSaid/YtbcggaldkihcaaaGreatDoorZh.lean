/- The day of an assembly of the call's own, walked: the program's. -/
import Derived.Test.YtbcggaldkihcaaaGreatDoorZg
import Derived.Test.YtbcggaldkihcaaaGreatDoorZo
namespace Go.Proofs.YtbcggaldkihcaaaGreatDoor
open Tryz
open Go.RowKit Go.Lib
def Tt (x:cS):Prop:= ∃At n1 ct Ab n2 cb Ac n3 L4 Am n4 L1,x=⟨.slice At n1 ct,.slice Ab n2 cb,.slice Ac n3 L4,.slice Am n4 L1⟩
def DoP (_a:cp) (o:Option cp) (base:Nat) (w:World) (e:Ending) (w':World):Prop:=
 ∃b x,e= .returned (.tuple #[eu b x,.bool o.isSome])/\Tt x/\(∀c,o=some c->b=c/\ ∃T C M,dM base w' x c T C M)/\Below base w w'
def iY (Z:Nat->Prop) (w w':World):Prop:= ∀z,Z z-> ∀zs,Row w z zs->Row w' z zs
theorem iY.of {Z:Nat->Prop} {w w':World} (hz: ∀z,Z z->z<w.heap.size) (hb:Below w.heap.size w w'):iY Z w w':=λz h _ hr=>hr.below hb (hz z h)
theorem iY.aD {Z F:Nat->Prop} {w W W':World} (h:iY Z w W) (hz: ∀z,Z z->z<W.heap.size) (ht:Touch F W W') (hF: ∀z,Z z-> ¬F z):iY Z w W':=λz hZ zs hr=>(h z hZ zs hr).aD (hz z hZ) ht (hF z hZ)
theorem iY.below {Z:Nat->Prop} {w W W':World} (h:iY Z w W) (hz: ∀z,Z z->z<W.heap.size) (hb:Below W.heap.size W W'):iY Z w W':=λz hZ zs hr=>(h z hZ zs hr).below hb (hz z hZ)
theorem iY.nP {Z:Nat->Prop} {w W:World} {p:Addr} (h:iY Z w W) (v:Value) (gm: ∀z,Z z->p.block≠z):iY Z w (W.setCell p v):=λz hZ zs hr=>(h z hZ zs hr).nP v (gm z hZ)
def Ks (_a:cp) (o:Option cp) (base:Nat) (Z:Nat->Prop) (w:World) (e:Ending) (w':World):Prop:=
 ∃b x,e= .returned (.tuple #[eu b x,.bool o.isSome])/\Tt x/\(∀c,o=some c->b=c/\ ∃T C M,dM base w' x c T C M/\ ∀b',bz x c T C M b'-> ¬Z b')/\Below base w w'/\iY Z w w'/\w.heap.size<=w'.heap.size
theorem ck.of {base:Nat} {w W:World} {x:cS} {a:cp} {T:List bR} {C:List bu} {M:List bH} (h:dM base w x a T C M) (hb:Below w.heap.size w W) (hr:Row W w.heap.size [.int .i64 a.day,.int .i64 a.rule,x.t,x.b,x.c,x.m]) (aI:w.heap.size<W.heap.size) (j7:base<=w.heap.size):ck base w.heap.size W x a T C M:=
 ⟨hr,h.below hb,aI,λb dF e=>by have:=(h.o.lt dF).2;omega,j7⟩
end Go.Proofs.YtbcggaldkihcaaaGreatDoor
