/- What the claim needs, part 38. -/
import Derived.Test.YtefpmjnimnmniaaRows
import Derived.RowKit
namespace Go.Proofs.Ytefpmjnimnmniaa
theorem mayEnterIs : Try.pinned.checked.prog.mayEnter = true := by kernel_rfl
end Go.Proofs.Ytefpmjnimnmniaa
