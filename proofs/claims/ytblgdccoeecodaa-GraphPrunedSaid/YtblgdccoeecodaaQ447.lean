/- What the claim needs, part 47. -/
import Derived.JoinedOf
import Derived.Test.YtblgdccoeecodaaQ444
namespace Go.Proofs.Ytblgdccoeecodaa
set_option linter.unusedSimpArgs false
set_option linter.unusedVariables false
open Go.RowKit
namespace graphPruned
theorem joined : joinedFacts Try.pinned.checked.prog 4 Try.f4 Rows.graphPrunedSpec Rows.graphPrunedRow = true := by
  unfold joinedFacts; rw [mayEnterIs]; kernel_rfl
end graphPruned
end Go.Proofs.Ytblgdccoeecodaa
