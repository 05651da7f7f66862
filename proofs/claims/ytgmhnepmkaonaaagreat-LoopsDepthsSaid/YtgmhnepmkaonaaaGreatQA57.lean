/- Part 57. -/
import Derived.JoinedOf
import Derived.Test.YtgmhnepmkaonaaaGreatQA0
import Derived.Test.YtgmhnepmkaonaaaGreatRows
import Derived.RowKit
namespace Go.Proofs.YtgmhnepmkaonaaaGreat
set_option linter.unusedSimpArgs false
set_option linter.unusedVariables false
open Go.RowKit
theorem mayEnterIs:Tryz.pinned.checked.prog.mayEnter=true:=by kernel_rfl
namespace loopsDepths
theorem joined:joinedFacts Tryz.pinned.checked.prog 9 Tryz.f9 Rows.loopsDepthsSpec Rows.loopsDepthsRow=true:=by
 unfold joinedFacts;rw [mayEnterIs];kernel_rfl
end loopsDepths
end Go.Proofs.YtgmhnepmkaonaaaGreat
