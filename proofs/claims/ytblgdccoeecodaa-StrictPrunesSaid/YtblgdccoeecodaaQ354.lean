/- What the claim needs,part 54. -/
import Derived.JoinedOf
import Derived.Test.YtblgdccoeecodaaQ353
namespace Go.Proofs.Ytblgdccoeecodaa
set_option linter.unusedSimpArgs false
set_option linter.unusedVariables false
open Go.RowKit
namespace strictPrunes
theorem joined:joinedFacts Try.pinned.checked.prog 5 Try.f5 Rows.strictPrunesSpec Rows.strictPrunesRow=true:=by
 unfold joinedFacts;rw [mayEnterIs];kernel_rfl
end strictPrunes
end Go.Proofs.Ytblgdccoeecodaa
