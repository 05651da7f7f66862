/- Part 53. -/
import Derived.JoinedOf
import Derived.Test.YtgmhnepmkaonaaaGreatPD52
namespace Go.Proofs.YtgmhnepmkaonaaaGreat
set_option linter.unusedSimpArgs false
set_option linter.unusedVariables false
open Go.RowKit
namespace interpEnds
theorem joined:joinedFacts Tryz.pinned.checked.prog 7 Tryz.f7 Rows.interpEndsSpec Rows.interpEndsRow=true:=by
 unfold joinedFacts;rw [mayEnterIs];kernel_rfl
end interpEnds
end Go.Proofs.YtgmhnepmkaonaaaGreat
