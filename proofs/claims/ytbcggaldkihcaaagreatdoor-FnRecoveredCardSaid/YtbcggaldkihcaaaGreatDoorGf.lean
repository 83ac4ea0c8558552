/- A deed drawn: what is handed back; the steps of the walk (used by Gk). -/
import Derived.Test.YtbcggaldkihcaaaGreatDoorGe
import Derived.Test.YtbcggaldkihcaaaGreatDoorZg
import Derived.Test.YtbcggaldkihcaaaGreatDoorZk
namespace Go.Proofs.YtbcggaldkihcaaaGreatDoor
open Tryz
open Go.RowKit Go.Lib
theorem PB (x y:Int) (w:World) (h:x<=y):Calls prog 67 #[.int .i64 x,.int .i64 y] w (f' (.int .i64 x) w):=by
 by_cases hl:x<y
 ·go_enter func67,ntmps67;go_wp2;go_ret;exact ⟨rfl,0,rfl⟩
 obtain rfl:x=y:=by omega
 go_enter func67,ntmps67;go_wp2;go_ret;exact ⟨rfl,0,rfl⟩
theorem ais (t:ByteArray):t.size=t.toList.length:=by
 have e1:t.toList.length=t.size:=by rw[ByteArray.toList_eq];simp
 exact e1.symm
theorem dJ.nn {a:cp} (h:dJ a):ua a:=by
 refine ⟨λx hx=>?_,ms.of h.av,λx hx=>?_⟩
 ·have:=(oN (Jt h.stat hx)).2.2.2;rw[ais];unfold maxLen;omega
 obtain ⟨k,hk⟩:=List.getElem?_of_mem hx;have hm:=gi.1 (h.ok.ao k x hk);refine ⟨?_,lC hm.pat⟩;have h1:=hm.name;unfold dU at h1;simp only[Bool.and_eq_true,decide_eq_true_eq]at h1;rw[ais];unfold maxLen;omega
def Qg (B:Nat) (w:World) (b k:Nat) (e:Ending) (w':World):Prop:=
 ∃d A1 c1 A2 c2,e= .returned (gw d A1 c1 A2 c2)/\ay ak d.af w.heap.size w' (.slice A1 d.af.length c1)/\ay ah d.patch w.heap.size w' (.slice A2 d.patch.length c2)/\bS d.patch/\d.al.size<=maxLen/\Src B w' b k/\iJ b w w'
end Go.Proofs.YtbcggaldkihcaaaGreatDoor
