/- A deed done in an assembly of the call's own, walked: the program's. -/
import Derived.Test.YtbcggaldkihcaaaGreatDoorZh
import Derived.Test.YtbcggaldkihcaaaGreatDoorZi
import Derived.Test.YtbcggaldkihcaaaGreatDoorZj
import Derived.Test.YtbcggaldkihcaaaGreatDoorQI
namespace Go.Proofs.YtbcggaldkihcaaaGreatDoor
open Tryz
open Go.RowKit Go.Lib
def gw (d:dr) (A1:Option Addr) (c1:Nat) (A2:Option Addr) (c2:Nat):Value:= .agg #[.int .i64 d.kind,.int .i64 d.member,.slice A1 d.af.length c1,.string d.al,.int .i64 d.bO,.slice A2 d.patch.length c2,.int .i64 d.start,.int .i64 d.aB,.int .i64 d.aj]
theorem fp.row {w:World} {b:Nat} {d:dr} {A1:Option Addr} {c1:Nat} {A2:Option Addr} {c2:Nat} (h:Row w b [.int .i64 d.kind,.int .i64 d.member,.slice A1 d.af.length c1,.string d.al,.int .i64 d.bO,.slice A2 d.patch.length c2,.int .i64 d.start,.int .i64 d.aB,.int .i64 d.aj])
 (hT:aae w w.heap.size (.slice A1 d.af.length c1) d.af) (hP:bg w w.heap.size (.slice A2 d.patch.length c2) d.patch) (hS:bS d.patch) (kJ:d.al.size<=maxLen):fp w b 0 d A1 c1 A2 c2:=
 ⟨h.cell 0 _ rfl,h.cell 1 _ rfl,h.cell 2 _ rfl,h.cell 3 _ rfl,h.cell 4 _ rfl,h.cell 5 _ rfl,h.cell 6 _ rfl,h.cell 7 _ rfl,h.cell 8 _ rfl,hT,hP,hS,kJ⟩
end Go.Proofs.YtbcggaldkihcaaaGreatDoor
