/- Acts copied, walked: their patches share no block. (Printed by tools/gen/g_zb.py) -/
import Derived.Test.YtihhbkijcebapaaQE
namespace Go.Proofs.Ytihhbkijcebapaa
open Go.RowKit Go.Lib

end Go.Proofs.Ytihhbkijcebapaa
