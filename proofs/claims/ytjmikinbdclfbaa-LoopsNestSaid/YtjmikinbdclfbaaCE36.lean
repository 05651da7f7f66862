/- What the claim needs, part 36. -/
import Derived.JoinedOf
import Derived.Test.YtjmikinbdclfbaaCE35
namespace Go.Proofs.Ytjmikinbdclfbaa
set_option linter.unusedSimpArgs false
set_option linter.unusedVariables false
open Go.RowKit
namespace loopsNest
theorem joined : joinedFacts Try.pinned.checked.prog 7 Try.f7 Rows.loopsNestSpec Rows.loopsNestRow = true := by
  unfold joinedFacts; rw [mayEnterIs]; kernel_rfl
end loopsNest
end Go.Proofs.Ytjmikinbdclfbaa
