/- Empty: this seat needs no shelf here. -/
import Derived.Test.YtbamlilnbhhcmaaDoorProg
import Derived.Lib.SlicesCompact
namespace Go.Proofs.YtbamlilnbhhcmaaDoor
end Go.Proofs.YtbamlilnbhhcmaaDoor
