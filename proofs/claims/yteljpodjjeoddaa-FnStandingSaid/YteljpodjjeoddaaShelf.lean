/- Empty: this seat needs no shelf here. -/
import Derived.Lib.SlicesCompact
import Derived.Test.YteljpodjjeoddaaProg
namespace Go.Proofs.Yteljpodjjeoddaa
end Go.Proofs.Yteljpodjjeoddaa
