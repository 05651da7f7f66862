/- What the claim needs,part 53. -/
import Derived.Test.YtblgdccoeecodaaRows
import Derived.RowKit
namespace Go.Proofs.Ytblgdccoeecodaa
theorem mayEnterIs:Try.pinned.checked.prog.mayEnter=true:=by kernel_rfl
end Go.Proofs.Ytblgdccoeecodaa
