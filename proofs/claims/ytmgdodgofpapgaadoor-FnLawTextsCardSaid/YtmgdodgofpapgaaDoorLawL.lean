/- Edits, walked: the reference's. -/
import Derived.Test.YtmgdodgofpapgaaDoorLawK
namespace Go.Proofs.YtmgdodgofpapgaaDoor
open Go.RowKit

def okBody (e : Edit) : Bool :=
  (decide (e.kind = 1) && decide (e.old.toList = []) && okSent e.new.toList) || (decide (e.kind = 2) && okSent e.old.toList && decide (e.new.toList = [])) ||
    (decide (e.kind = 3) && okSent e.old.toList && okSent e.new.toList && !(e.old.toList == e.new.toList))
theorem okEdit_body (e : Edit) : okEdit e = (inB e.id 1 99 && okBody e) := rfl

end Go.Proofs.YtmgdodgofpapgaaDoor
