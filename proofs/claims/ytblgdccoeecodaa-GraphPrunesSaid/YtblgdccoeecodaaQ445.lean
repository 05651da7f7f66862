/- What the claim needs, part 45. -/
import Derived.JoinedOf
import Derived.Test.YtblgdccoeecodaaQ444
namespace Go.Proofs.Ytblgdccoeecodaa
set_option linter.unusedSimpArgs false
set_option linter.unusedVariables false
open Go.RowKit
namespace graphPrunes
theorem joined : joinedFacts Try.pinned.checked.prog 3 Try.f3 Rows.graphPrunesSpec Rows.graphPrunesRow = true := by
  unfold joinedFacts; rw [mayEnterIs]; kernel_rfl
end graphPrunes
end Go.Proofs.Ytblgdccoeecodaa
