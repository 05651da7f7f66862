/- What the claim needs, part 39. -/
import Derived.JoinedOf
import Derived.Test.YtefpmjnimnmniaaH38
namespace Go.Proofs.Ytefpmjnimnmniaa
set_option linter.unusedSimpArgs false
set_option linter.unusedVariables false
open Go.RowKit
namespace strictSplits
theorem joined : joinedFacts Try.pinned.checked.prog 21 Try.f21 Rows.strictSplitsSpec Rows.strictSplitsRow = true := by
  unfold joinedFacts; rw [mayEnterIs]; kernel_rfl
end strictSplits
end Go.Proofs.Ytefpmjnimnmniaa
