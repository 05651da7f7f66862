/- What the claim needs, part 42. -/
import Derived.JoinedOf
import Derived.Test.YtjmikinbdclfbaaCB41
namespace Go.Proofs.Ytjmikinbdclfbaa
set_option linter.unusedSimpArgs false
set_option linter.unusedVariables false
open Go.RowKit
namespace interpCalc
theorem joined : joinedFacts Try.pinned.checked.prog 3 Try.f3 Rows.interpCalcSpec Rows.interpCalcRow = true := by
  unfold joinedFacts; rw [mayEnterIs]; kernel_rfl
end interpCalc
end Go.Proofs.Ytjmikinbdclfbaa
