/- Acts copied, walked: their patches share no block. (Printed by tools/gen/g_zb.py) -/
import Derived.Test.YtbamlilnbhhcmaaDoorQE
namespace Go.Proofs.YtbamlilnbhhcmaaDoor
open Go.RowKit Go.Lib

end Go.Proofs.YtbamlilnbhhcmaaDoor
