/- Is a number in a range: the reference. -/
import Derived.Test.YtmgdodgofpapgaaDoorBase
namespace Go.Proofs.YtmgdodgofpapgaaDoor
open Go.RowKit

end Go.Proofs.YtmgdodgofpapgaaDoor
