/- What the claim needs, part 45. -/
import Derived.JoinedOf
import Derived.Test.YtefpmjnimnmniaaG41
namespace Go.Proofs.Ytefpmjnimnmniaa
set_option linter.unusedSimpArgs false
set_option linter.unusedVariables false
open Go.RowKit
namespace graphApart
theorem joined : joinedFacts Try.pinned.checked.prog 9 Try.f9 Rows.graphApartSpec Rows.graphApartRow = true := by
  unfold joinedFacts; rw [mayEnterIs]; kernel_rfl
end graphApart
end Go.Proofs.Ytefpmjnimnmniaa
