/- What the claim needs,part 50. -/
import Derived.JoinedOf
import Derived.Test.YtgmhnepmkaonaaaGreatPB49
namespace Go.Proofs.YtgmhnepmkaonaaaGreat
set_option linter.unusedSimpArgs false
set_option linter.unusedVariables false
open Go.RowKit
namespace loopsEnds
theorem joined:joinedFacts Tryz.pinned.checked.prog 13 Tryz.f13 Rows.loopsEndsSpec Rows.loopsEndsRow=true:=by
 unfold joinedFacts;rw [mayEnterIs];kernel_rfl
end loopsEnds
end Go.Proofs.YtgmhnepmkaonaaaGreat
