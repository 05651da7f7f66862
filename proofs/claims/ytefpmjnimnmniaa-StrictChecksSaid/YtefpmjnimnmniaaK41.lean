/- What the claim needs, part 41. -/
import Derived.JoinedOf
import Derived.Test.YtefpmjnimnmniaaK40
namespace Go.Proofs.Ytefpmjnimnmniaa
set_option linter.unusedSimpArgs false
set_option linter.unusedVariables false
open Go.RowKit
namespace strictChecks
theorem joined : joinedFacts Try.pinned.checked.prog 19 Try.f19 Rows.strictChecksSpec Rows.strictChecksRow = true := by
  unfold joinedFacts; rw [mayEnterIs]; kernel_rfl
end strictChecks
end Go.Proofs.Ytefpmjnimnmniaa
