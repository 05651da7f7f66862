/- Part 52. -/
import Derived.Test.YtgmhnepmkaonaaaGreatPD0
import Derived.Test.YtgmhnepmkaonaaaGreatRows
import Derived.RowKit
namespace Go.Proofs.YtgmhnepmkaonaaaGreat
theorem mayEnterIs:Tryz.pinned.checked.prog.mayEnter=true:=by kernel_rfl
end Go.Proofs.YtgmhnepmkaonaaaGreat
