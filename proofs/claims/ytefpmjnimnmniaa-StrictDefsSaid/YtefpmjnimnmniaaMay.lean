/- One fact of the program alone (whatever the row): kept apart, so that the kernel's memory is given back behind it. -/
import Derived.Test.YtefpmjnimnmniaaRows
import Derived.RowKit
namespace Go.Proofs.Ytefpmjnimnmniaa
theorem mayEnterIs : Try.pinned.checked.prog.mayEnter = true := by kernel_rfl
end Go.Proofs.Ytefpmjnimnmniaa
