/- Empty: this seat needs no shelf here. -/
import Derived.Lib.SlicesCompact
import Derived.Test.YtlbnebmdolnagaaProg
namespace Go.Proofs.Ytlbnebmdolnagaa
end Go.Proofs.Ytlbnebmdolnagaa
