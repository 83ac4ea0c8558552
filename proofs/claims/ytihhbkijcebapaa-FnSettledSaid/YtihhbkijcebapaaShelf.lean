/- Empty: this seat needs no shelf here. -/
import Derived.Test.YtihhbkijcebapaaProg
namespace Go.Proofs.Ytihhbkijcebapaa
end Go.Proofs.Ytihhbkijcebapaa
