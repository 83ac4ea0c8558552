/- Arguments opened: an assembly (a struct of six fields; slices of slices, of articles, of.. -/
import Derived.Test.YtbcggaldkihcaaaGreatDoorQE
import Derived.Test.YtbcggaldkihcaaaGreatDoorQC
import Derived.Test.YtbcggaldkihcaaaGreatDoorQB
import Derived.Deep.RegionHeld3
namespace Go.Proofs.YtbcggaldkihcaaaGreatDoor
open Tryz
open Go.Joins Go.ChangeShapes Go.WideShapes Go.RowKit Go.Deep
section
variable {H:Type} {enc:TypeId×Value->H} {P:Program} {w:World} {base:Nat} {spare:Nat->Bool} {held:Bool}
end
section
variable {H:Type} {enc:TypeId×Value->H} {P:Program} {w:World} {base dP:Nat} {held:Bool} {x:DataW H×List MemPlace}
end
section
variable {H:Type} {enc:TypeId×Value->H} {w:World} {held:Bool}
end
open Go.Lib
def kF {α:Type} (p:α->Bool) (L:List α):Int:=match L.findIdx? p with|some k=>(k:Int)|none=> -1
theorem vO {α:Type} {p:α->Bool} {L:List α} {k:Nat} (hk:k<L.length) (h:p L[k]=true) (hn: ∀j (hj:j<k),p (L[j]'(by omega))=false):kF p L=k:=by
 have:L.findIdx? p=some k:=List.findIdx?_eq_some_iff_getElem.2 ⟨hk,h,λj hj=>by rw[hn j hj];simp⟩;unfold kF;rw[this]
theorem tl {α:Type} {p:α->Bool} {L:List α} (hn: ∀j (hj:j<L.length),p L[j]=false):kF p L= -1:=by
 have:L.findIdx? p=none:=List.findIdx?_eq_none_iff.2 (λx hx=>by
  obtain ⟨j,hj,rfl⟩:=List.mem_iff_getElem.1 hx;exact hn j hj)
 unfold kF;rw[this]
def Jd (g:Nat) (lb:Array Value) (p:Int->Bool) (w:World):Prop:=
 ∀(W:World) (x:Int),Below w.heap.size w W->Calls prog g (#[.int .i64 x]++lb) W (bT (.bool (p x)) W)
def E0 (g:Nat) (lb:Array Value) (p:gu->Bool) (w:World):Prop:=
 ∀(W:World) (m:gu) (v1 v2:Value),Below w.heap.size w W->Calls prog g (#[.agg #[.string m.al,.int .i64 m.br,v1,.int .i64 m.a8,.int .i64 m.fin,.int .i64 m.aj,v2,.int .i64 m.result]]++lb) W (bT (.bool (p m)) W)
theorem nA.take {w:World} {B:Nat} {A:Option Addr} {n c:Nat} {ls:List gu} (h:nA w B (.slice A n c) ls) (k:Nat) (hk:k<=ls.length):nA w B (.slice A k c) (ls.take k):=by
 obtain ⟨L,rfl,h2,h3⟩:=h;rw[List.length_map]at hk;exact ⟨L.take k,by rw[List.map_take],cz.take h2 k hk,λx hx=>h3 x (List.mem_of_mem_take hx)⟩
end Go.Proofs.YtbcggaldkihcaaaGreatDoor
