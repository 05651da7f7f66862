/- What the claim needs, part 42. -/
import Derived.JoinedOf
import Derived.Test.YtjmikinbdclfbaaCC41
namespace Go.Proofs.Ytjmikinbdclfbaa
set_option linter.unusedSimpArgs false
set_option linter.unusedVariables false
open Go.RowKit
namespace interpVisits
theorem joined : joinedFacts Try.pinned.checked.prog 6 Try.f6 Rows.interpVisitsSpec Rows.interpVisitsRow = true := by
  unfold joinedFacts; rw [mayEnterIs]; kernel_rfl
end interpVisits
end Go.Proofs.Ytjmikinbdclfbaa
