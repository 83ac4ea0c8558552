/- A motion proposed, walked: the program's. -/
import Derived.Test.YtbcggaldkihcaaaGreatDoorZk
namespace Go.Proofs.YtbcggaldkihcaaaGreatDoor
open Tryz
open Go.RowKit Go.Lib
end Go.Proofs.YtbcggaldkihcaaaGreatDoor
