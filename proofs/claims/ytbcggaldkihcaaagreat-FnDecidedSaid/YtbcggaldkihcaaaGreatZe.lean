/- An assembly copied, walked: the reference's. -/
import Derived.Test.YtbcggaldkihcaaaGreatZd
import Derived.Test.YtbcggaldkihcaaaGreatQI
import Derived.StillTailTactics
namespace Go.Proofs.YtbcggaldkihcaaaGreat
open Tryz
open Go.RowKit Go.Lib
theorem abc:type_of% @Go.RowKit.Below.setCell:=@Go.RowKit.Below.setCell
end Go.Proofs.YtbcggaldkihcaaaGreat
