/- Empty: this seat needs no shelf here. -/
import Derived.Test.YtbcggaldkihcaaaGreatDoorProg
import Derived.Lib.SlicesCompact
namespace Go.Proofs.YtbcggaldkihcaaaGreatDoor
open Tryz
end Go.Proofs.YtbcggaldkihcaaaGreatDoor
