/- append of a slice onto a row of the call's own, with where the row lies behind it. -/
import Derived.Test.YtbamlilnbhhcmaaDoorQE
namespace Go.Proofs.YtbamlilnbhhcmaaDoor
open Go.RowKit Go.Lib

end Go.Proofs.YtbamlilnbhhcmaaDoor
