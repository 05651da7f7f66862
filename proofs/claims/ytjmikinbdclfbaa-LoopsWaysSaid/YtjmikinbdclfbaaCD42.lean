/- What the claim needs, part 42. -/
import Derived.JoinedOf
import Derived.Test.YtjmikinbdclfbaaCD38
namespace Go.Proofs.Ytjmikinbdclfbaa
set_option linter.unusedSimpArgs false
set_option linter.unusedVariables false
open Go.RowKit
namespace loopsWays
theorem joined : joinedFacts Try.pinned.checked.prog 9 Try.f9 Rows.loopsWaysSpec Rows.loopsWaysRow = true := by
  unfold joinedFacts; rw [mayEnterIs]; kernel_rfl
end loopsWays
end Go.Proofs.Ytjmikinbdclfbaa
