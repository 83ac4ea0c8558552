/- Patches, walked: the reference's. -/
import Derived.Test.YtmgdodgofpapgaaDoorLawL
import Derived.Test.YtmgdodgofpapgaaDoorAft
namespace Go.Proofs.YtmgdodgofpapgaaDoor
open Go.RowKit

end Go.Proofs.YtmgdodgofpapgaaDoor
