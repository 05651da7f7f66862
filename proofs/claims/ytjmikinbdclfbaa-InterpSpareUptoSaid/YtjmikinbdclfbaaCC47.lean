/- What the claim needs, part 47. -/
import Derived.JoinedOf
import Derived.Test.YtjmikinbdclfbaaCC41
namespace Go.Proofs.Ytjmikinbdclfbaa
set_option linter.unusedSimpArgs false
set_option linter.unusedVariables false
open Go.RowKit
namespace interpSpare
theorem joined : joinedFacts Try.pinned.checked.prog 5 Try.f5 (Rows.OpenSpec.upto Rows.interpSpareSpec).bare Rows.interpSpareUptoRow = true := by
  unfold joinedFacts; rw [mayEnterIs]; kernel_rfl
end interpSpare
end Go.Proofs.Ytjmikinbdclfbaa
