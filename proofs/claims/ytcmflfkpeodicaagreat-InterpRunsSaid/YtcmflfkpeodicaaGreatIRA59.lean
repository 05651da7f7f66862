/- Part 59. -/
import Derived.Test.YtcmflfkpeodicaaGreatIRA1
import Derived.Test.YtcmflfkpeodicaaGreatRows
import Derived.JoinedOf
namespace Go.Proofs.YtcmflfkpeodicaaGreat
set_option linter.all false
section
theorem mayEnterIs:Tryz.pinned.checked.prog.mayEnter=true:=by kernel_rfl
end
section
open Go.RowKit
namespace interpRuns
theorem joined:joinedFacts Tryz.pinned.checked.prog 3 Tryz.f3 Rows.interpRunsSpec Rows.interpRunsRow=true:=by
 unfold joinedFacts;rw [mayEnterIs];kernel_rfl
end interpRuns
end
end Go.Proofs.YtcmflfkpeodicaaGreat
