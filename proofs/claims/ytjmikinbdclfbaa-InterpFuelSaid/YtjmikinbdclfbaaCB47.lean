/- What the claim needs, part 47. -/
import Derived.JoinedOf
import Derived.Test.YtjmikinbdclfbaaCB41
namespace Go.Proofs.Ytjmikinbdclfbaa
set_option linter.unusedSimpArgs false
set_option linter.unusedVariables false
open Go.RowKit
namespace interpFuel
theorem joined : joinedFacts Try.pinned.checked.prog 4 Try.f4 Rows.interpFuelSpec Rows.interpFuelRow = true := by
  unfold joinedFacts; rw [mayEnterIs]; kernel_rfl
end interpFuel
end Go.Proofs.Ytjmikinbdclfbaa
