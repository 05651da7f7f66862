/- What the claim needs, part 39. -/
import Derived.JoinedOf
import Derived.Test.YtjmikinbdclfbaaCD38
namespace Go.Proofs.Ytjmikinbdclfbaa
set_option linter.unusedSimpArgs false
set_option linter.unusedVariables false
open Go.RowKit
namespace loopsShut
theorem joined : joinedFacts Try.pinned.checked.prog 8 Try.f8 Rows.loopsShutSpec Rows.loopsShutRow = true := by
  unfold joinedFacts; rw [mayEnterIs]; kernel_rfl
end loopsShut
end Go.Proofs.Ytjmikinbdclfbaa
