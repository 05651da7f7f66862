/- What the claim needs, part 42. -/
import Derived.JoinedOf
import Derived.Test.YtefpmjnimnmniaaG41
namespace Go.Proofs.Ytefpmjnimnmniaa
set_option linter.unusedSimpArgs false
set_option linter.unusedVariables false
open Go.RowKit
namespace graphSplits
theorem joined : joinedFacts Try.pinned.checked.prog 8 Try.f8 Rows.graphSplitsSpec Rows.graphSplitsRow = true := by
  unfold joinedFacts; rw [mayEnterIs]; kernel_rfl
end graphSplits
end Go.Proofs.Ytefpmjnimnmniaa
