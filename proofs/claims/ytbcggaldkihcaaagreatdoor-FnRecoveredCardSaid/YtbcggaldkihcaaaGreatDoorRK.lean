/- Both readers of a deed: for every text. -/
import Derived.Test.YtbcggaldkihcaaaGreatDoorRJv
namespace Go.Proofs.YtbcggaldkihcaaaGreatDoor
open Tryz
open Go.RowKit Go.Lib
def ab3 (f:FuncId):Prop:= ∀(s:ByteArray) (W:World),s.size<=1048576->aaG W.heap.size W->Calls prog f #[.string s] W (aaz s.data.toList W)
theorem ab4:ab3 8:=by
 intro s w hs hE;by_cases h:(K8 32 6 s.data.toList).getD 0 []=[118,111,116,101]/\(K8 32 6 s.data.toList).length=4
 ·exact aaT s w hs hE h
 exact aaS s w hs hE h
end Go.Proofs.YtbcggaldkihcaaaGreatDoor
