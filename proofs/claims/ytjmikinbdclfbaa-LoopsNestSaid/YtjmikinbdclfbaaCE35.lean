/- What the claim needs, part 35. -/
import Derived.Test.YtjmikinbdclfbaaRows
import Derived.RowKit
namespace Go.Proofs.Ytjmikinbdclfbaa
theorem mayEnterIs : Try.pinned.checked.prog.mayEnter = true := by kernel_rfl
end Go.Proofs.Ytjmikinbdclfbaa
