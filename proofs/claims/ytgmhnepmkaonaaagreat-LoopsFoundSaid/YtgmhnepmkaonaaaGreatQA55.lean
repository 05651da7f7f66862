/- Part 55. -/
import Derived.JoinedOf
import Derived.Test.YtgmhnepmkaonaaaGreatQA0
import Derived.Test.YtgmhnepmkaonaaaGreatRows
import Derived.RowKit
namespace Go.Proofs.YtgmhnepmkaonaaaGreat
set_option linter.unusedSimpArgs false
set_option linter.unusedVariables false
open Go.RowKit
theorem mayEnterIs:Tryz.pinned.checked.prog.mayEnter=true:=by kernel_rfl
namespace loopsFound
theorem joined:joinedFacts Tryz.pinned.checked.prog 8 Tryz.f8 Rows.loopsFoundSpec Rows.loopsFoundRow=true:=by
 unfold joinedFacts;rw [mayEnterIs];kernel_rfl
end loopsFound
end Go.Proofs.YtgmhnepmkaonaaaGreat
