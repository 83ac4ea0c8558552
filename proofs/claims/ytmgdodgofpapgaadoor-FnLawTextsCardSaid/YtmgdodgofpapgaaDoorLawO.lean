/- Deeds, walked: the reference's test, kind by kind. -/
import Derived.Test.YtmgdodgofpapgaaDoorLawN
namespace Go.Proofs.YtmgdodgofpapgaaDoor
open Go.RowKit

end Go.Proofs.YtmgdodgofpapgaaDoor
