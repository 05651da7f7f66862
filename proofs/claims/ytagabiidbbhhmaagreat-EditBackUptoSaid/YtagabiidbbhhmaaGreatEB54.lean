/- Part 54. -/
import Derived.Test.YtagabiidbbhhmaaGreatEB0
import Derived.Test.YtagabiidbbhhmaaGreatRows
import Derived.JoinedOf
namespace Go.Proofs.YtagabiidbbhhmaaGreat
set_option linter.all false
section
theorem mayEnterIs:Tryz.pinned.checked.prog.mayEnter=true:=by kernel_rfl
end
section
open Go.RowKit
namespace editBack
theorem joined:joinedFacts Tryz.pinned.checked.prog 5 Tryz.f5 (Rows.OpenSpec.upto Rows.editBackSpec).bare Rows.editBackUptoRow=true:=by
 unfold joinedFacts;rw [mayEnterIs];kernel_rfl
end editBack
end
end Go.Proofs.YtagabiidbbhhmaaGreat
