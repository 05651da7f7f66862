/-
  No cell of these rows narrows 'for every input' (looked for: loops, veiled, ifaces, maps, wideKeys, modest, calm, conditions, laid).
  DERIVED. THE GIVEN ROWS OF THIS SEAT. 8 by the template 'for every input the law returns true; each argument reads behind the call as it read before'; 0 by the template 'total and deterministic' (their statements: YtagabiidbbhhmaaGreatTotals.lean).
  GIVEN WITH THE SEED: the statements are not yours to turn. If you find one false, say at which input.
  Laid BY PROGRAM, IN A SANDBOX (cutbox-rows.mjs): the forced cells as the released guide's own fill.sh prints them over the translation d85af484205f9136… (all of the seat's roots in one cut). By AI agents, Wed Nov 11 2026. No macro, syntax, notation, axiom, sorry.
-/
import Derived.Test.YtagabiidbbhhmaaGreatChecked
import GoSem.Claim
import GoSem.ClaimJoined
import GoSem.ClaimMapViews
import Derived.JoinedTies
import Derived.KernelRfl
namespace Go.Proofs.YtagabiidbbhhmaaGreat
/- THE CELL 'sum', in the pinned program and in every row, IS THE sha256 OF THE DUMP (.gsa) THAT YtagabiidbbhhmaaGreatProg.lean LOADS. Nothing in Lean hashes anything: it is a label: what it is worth is what the hold of that sum in a sandbox is worth. -/
noncomputable def Tryz.pinned : Pinned := { name := "ytagabiidbbhhmaagreat", sum := "d85af484205f9136a8bcb46a73cb39537cf914dce47c3d7b8be37272d3011d58", checked := Tryz.checked }
namespace Rows
def none {H : Type} : Left H := { results := [], args := [] }

/-- 'strakelaw07.EditRenames': WHATEVER THE INPUT: true; the input reads as it did. -/
def editRenamesSpec : ChangeSpec := { name := "editRenames", fn := fun _ => fun
  | [d1, d2] => { results := [.lit (.bool true)], args := [d1, d2] }
  | _ => none }
def editRenamesRow : OpenClaim := { program := "ytagabiidbbhhmaagreat", sum := "d85af484205f9136a8bcb46a73cb39537cf914dce47c3d7b8be37272d3011d58", func := "strake/strakelaw07.EditRenames", spec := "editRenames", unfollowed := true, recurses := true, apart := false }
def EditRenamesSaid : Prop := editRenamesRow.holds Tryz.pinned (OpenSpec.ofChange editRenamesSpec)

/-- ITS FALSE NEIGHBOUR: 'it returns false'. Refute it at one input. -/
def editRenamesWrong : ChangeSpec := { name := "editRenames", fn := fun _ => fun
  | [d1, d2] => { results := [.lit (.bool false)], args := [d1, d2] }
  | _ => none }
def EditRenamesWrongFalsely : Prop := editRenamesRow.holds Tryz.pinned (OpenSpec.ofChange editRenamesWrong)

/-- 'strakelaw07.EditReplaces': WHATEVER THE INPUT: true; the input reads as it did. -/
def editReplacesSpec : ChangeSpec := { name := "editReplaces", fn := fun _ => fun
  | [d1, d2, d3] => { results := [.lit (.bool true)], args := [d1, d2, d3] }
  | _ => none }
def editReplacesRow : OpenClaim := { program := "ytagabiidbbhhmaagreat", sum := "d85af484205f9136a8bcb46a73cb39537cf914dce47c3d7b8be37272d3011d58", func := "strake/strakelaw07.EditReplaces", spec := "editReplaces", unfollowed := true, recurses := true, apart := false }
def EditReplacesSaid : Prop := editReplacesRow.holds Tryz.pinned (OpenSpec.ofChange editReplacesSpec)

/-- ITS FALSE NEIGHBOUR: 'it returns false'. Refute it at one input. -/
def editReplacesWrong : ChangeSpec := { name := "editReplaces", fn := fun _ => fun
  | [d1, d2, d3] => { results := [.lit (.bool false)], args := [d1, d2, d3] }
  | _ => none }
def EditReplacesWrongFalsely : Prop := editReplacesRow.holds Tryz.pinned (OpenSpec.ofChange editReplacesWrong)

/-- 'strakelaw07.EditBack': WHATEVER THE INPUT: true; the input reads as it did. -/
def editBackSpec : ChangeSpec := { name := "editBack", fn := fun _ => fun
  | [d1, d2, d3] => { results := [.lit (.bool true)], args := [d1, d2, d3] }
  | _ => none }
def editBackRow : OpenClaim := { program := "ytagabiidbbhhmaagreat", sum := "d85af484205f9136a8bcb46a73cb39537cf914dce47c3d7b8be37272d3011d58", func := "strake/strakelaw07.EditBack", spec := "editBack", unfollowed := true, recurses := true, apart := false }
def EditBackSaid : Prop := editBackRow.holds Tryz.pinned (OpenSpec.ofChange editBackSpec)

/-- ITS FALSE NEIGHBOUR: 'it returns false'. Refute it at one input. -/
def editBackWrong : ChangeSpec := { name := "editBack", fn := fun _ => fun
  | [d1, d2, d3] => { results := [.lit (.bool false)], args := [d1, d2, d3] }
  | _ => none }
def EditBackWrongFalsely : Prop := editBackRow.holds Tryz.pinned (OpenSpec.ofChange editBackWrong)

/-- 'strakelaw06.InterpRuns': WHATEVER THE INPUT: true; the input reads as it did. -/
def interpRunsSpec : ChangeSpec := { name := "interpRuns", fn := fun _ => fun
  | [d1, d2, d3] => { results := [.lit (.bool true)], args := [d1, d2, d3] }
  | _ => none }
def interpRunsRow : OpenClaim := { program := "ytagabiidbbhhmaagreat", sum := "d85af484205f9136a8bcb46a73cb39537cf914dce47c3d7b8be37272d3011d58", func := "strake/strakelaw06.InterpRuns", spec := "interpRuns", unfollowed := true, recurses := true, apart := false }
def InterpRunsSaid : Prop := interpRunsRow.holds Tryz.pinned (OpenSpec.ofChange interpRunsSpec)

/-- ITS FALSE NEIGHBOUR: 'it returns false'. Refute it at one input. -/
def interpRunsWrong : ChangeSpec := { name := "interpRuns", fn := fun _ => fun
  | [d1, d2, d3] => { results := [.lit (.bool false)], args := [d1, d2, d3] }
  | _ => none }
def InterpRunsWrongFalsely : Prop := interpRunsRow.holds Tryz.pinned (OpenSpec.ofChange interpRunsWrong)

/-- 'strakelaw16.SpanOf': WHATEVER THE INPUT: true; the input reads as it did. -/
def spanOfSpec : ChangeSpec := { name := "spanOf", fn := fun _ => fun
  | [d] => { results := [.lit (.bool true)], args := [d] }
  | _ => none }
def spanOfRow : OpenClaim := { program := "ytagabiidbbhhmaagreat", sum := "d85af484205f9136a8bcb46a73cb39537cf914dce47c3d7b8be37272d3011d58", func := "strake/strakelaw16.SpanOf", spec := "spanOf", inPlace := ["math/bits.Add64", "math/bits.Sub64"], unfollowed := true, recurses := true, apart := false }
def SpanOfSaid : Prop := spanOfRow.holds Tryz.pinned (OpenSpec.ofChange spanOfSpec)

/-- ITS FALSE NEIGHBOUR: 'it returns false'. Refute it at one input. -/
def spanOfWrong : ChangeSpec := { name := "spanOf", fn := fun _ => fun
  | [d] => { results := [.lit (.bool false)], args := [d] }
  | _ => none }
def SpanOfWrongFalsely : Prop := spanOfRow.holds Tryz.pinned (OpenSpec.ofChange spanOfWrong)

/-- 'strakelaw16.SpanReturns': WHATEVER THE INPUT: true; the input reads as it did. -/
def spanReturnsSpec : ChangeSpec := { name := "spanReturns", fn := fun _ => fun
  | [d1, d2] => { results := [.lit (.bool true)], args := [d1, d2] }
  | _ => none }
def spanReturnsRow : OpenClaim := { program := "ytagabiidbbhhmaagreat", sum := "d85af484205f9136a8bcb46a73cb39537cf914dce47c3d7b8be37272d3011d58", func := "strake/strakelaw16.SpanReturns", spec := "spanReturns", inPlace := ["math/bits.Add64", "math/bits.Sub64"], unfollowed := true, recurses := true, apart := false }
def SpanReturnsSaid : Prop := spanReturnsRow.holds Tryz.pinned (OpenSpec.ofChange spanReturnsSpec)

/-- ITS FALSE NEIGHBOUR: 'it returns false'. Refute it at one input. -/
def spanReturnsWrong : ChangeSpec := { name := "spanReturns", fn := fun _ => fun
  | [d1, d2] => { results := [.lit (.bool false)], args := [d1, d2] }
  | _ => none }
def SpanReturnsWrongFalsely : Prop := spanReturnsRow.holds Tryz.pinned (OpenSpec.ofChange spanReturnsWrong)

/-- 'strakelaw07.EditUnseen': WHATEVER THE INPUT: true; the input reads as it did. -/
def editUnseenSpec : ChangeSpec := { name := "editUnseen", fn := fun _ => fun
  | [d1, d2, d3] => { results := [.lit (.bool true)], args := [d1, d2, d3] }
  | _ => none }
def editUnseenRow : OpenClaim := { program := "ytagabiidbbhhmaagreat", sum := "d85af484205f9136a8bcb46a73cb39537cf914dce47c3d7b8be37272d3011d58", func := "strake/strakelaw07.EditUnseen", spec := "editUnseen", unfollowed := true, recurses := true, apart := false }
def EditUnseenSaid : Prop := editUnseenRow.holds Tryz.pinned (OpenSpec.ofChange editUnseenSpec)

/-- ITS FALSE NEIGHBOUR: 'it returns false'. Refute it at one input. -/
def editUnseenWrong : ChangeSpec := { name := "editUnseen", fn := fun _ => fun
  | [d1, d2, d3] => { results := [.lit (.bool false)], args := [d1, d2, d3] }
  | _ => none }
def EditUnseenWrongFalsely : Prop := editUnseenRow.holds Tryz.pinned (OpenSpec.ofChange editUnseenWrong)

/-- 'strakelaw07.EditSame': WHATEVER THE INPUT: true; the input reads as it did. -/
def editSameSpec : ChangeSpec := { name := "editSame", fn := fun _ => fun
  | [d1, d2] => { results := [.lit (.bool true)], args := [d1, d2] }
  | _ => none }
def editSameRow : OpenClaim := { program := "ytagabiidbbhhmaagreat", sum := "d85af484205f9136a8bcb46a73cb39537cf914dce47c3d7b8be37272d3011d58", func := "strake/strakelaw07.EditSame", spec := "editSame", unfollowed := true, recurses := true, apart := false }
def EditSameSaid : Prop := editSameRow.holds Tryz.pinned (OpenSpec.ofChange editSameSpec)

/-- ITS FALSE NEIGHBOUR: 'it returns false'. Refute it at one input. -/
def editSameWrong : ChangeSpec := { name := "editSame", fn := fun _ => fun
  | [d1, d2] => { results := [.lit (.bool false)], args := [d1, d2] }
  | _ => none }
def EditSameWrongFalsely : Prop := editSameRow.holds Tryz.pinned (OpenSpec.ofChange editSameWrong)

/- THE SECOND FORM. 'bulk': how many values and letters a reading holds, each counted each time it is reached (what is shared counts as often as it is met; a slice's spare places count too). A statement '..UptoSaid' is the law's where the arguments, and the package variables that the reading takes, are together of bulk at most 1048576: NARROWER than '..Said'. Prove '..Said' where nothing that the law and all that it calls make is longer than what came in: it says more and counts as full. Else prove '..UptoSaid'. A law counts once. -/
mutual
def uptoBulk {H : Type} : DataW H → Nat
  | .lit (.string bytes) => bytes.length + 1
  | .lit _ => 1
  | .nil => 1
  | .ptr d => uptoBulk d + 1
  | .slice elems spare => uptoBulkAll elems + uptoBulkAll spare + 1
  | .agg parts => uptoBulkAll parts + 1
  | .iface _ d => uptoBulk d + 1
  | .map entries => uptoBulkEntries entries + 1
  | .held _ => 1
def uptoBulkAll {H : Type} : List (DataW H) → Nat
  | [] => 0
  | d :: r => uptoBulk d + uptoBulkAll r
def uptoBulkEntries {H : Type} : List (Lit × DataW H) → Nat
  | [] => 0
  | x :: r => uptoBulkEntry x + uptoBulkEntries r
def uptoBulkEntry {H : Type} : Lit × DataW H → Nat
  | (.string bytes, d) => bytes.length + uptoBulk d + 1
  | (_, d) => uptoBulk d + 1
 end
def uptoSmall : (H : Type) → List (DataW H) → Bool := fun _ ds => decide (uptoBulkAll ds ≤ 1048576)
def OpenSpec.upto (s : _root_.Go.ChangeSpec) : _root_.Go.OpenSpec := { _root_.Go.OpenSpec.ofChange s with cond := some uptoSmall }

/-- 'strakelaw07.EditRenames', WHERE WHAT IT READS IS OF BULK AT MOST 1048576: true; the input reads as it did. -/
def editRenamesUptoRow : OpenClaim := { program := "ytagabiidbbhhmaagreat", sum := "d85af484205f9136a8bcb46a73cb39537cf914dce47c3d7b8be37272d3011d58", func := "strake/strakelaw07.EditRenames", spec := "editRenames", unfollowed := true, recurses := true, apart := false, narrowed := true }
def EditRenamesUptoSaid : Prop := editRenamesUptoRow.holds Tryz.pinned (OpenSpec.upto editRenamesSpec)

/-- 'strakelaw07.EditReplaces', WHERE WHAT IT READS IS OF BULK AT MOST 1048576: true; the input reads as it did. -/
def editReplacesUptoRow : OpenClaim := { program := "ytagabiidbbhhmaagreat", sum := "d85af484205f9136a8bcb46a73cb39537cf914dce47c3d7b8be37272d3011d58", func := "strake/strakelaw07.EditReplaces", spec := "editReplaces", unfollowed := true, recurses := true, apart := false, narrowed := true }
def EditReplacesUptoSaid : Prop := editReplacesUptoRow.holds Tryz.pinned (OpenSpec.upto editReplacesSpec)

/-- 'strakelaw07.EditBack', WHERE WHAT IT READS IS OF BULK AT MOST 1048576: true; the input reads as it did. -/
def editBackUptoRow : OpenClaim := { program := "ytagabiidbbhhmaagreat", sum := "d85af484205f9136a8bcb46a73cb39537cf914dce47c3d7b8be37272d3011d58", func := "strake/strakelaw07.EditBack", spec := "editBack", unfollowed := true, recurses := true, apart := false, narrowed := true }
def EditBackUptoSaid : Prop := editBackUptoRow.holds Tryz.pinned (OpenSpec.upto editBackSpec)

/-- 'strakelaw06.InterpRuns', WHERE WHAT IT READS IS OF BULK AT MOST 1048576: true; the input reads as it did. -/
def interpRunsUptoRow : OpenClaim := { program := "ytagabiidbbhhmaagreat", sum := "d85af484205f9136a8bcb46a73cb39537cf914dce47c3d7b8be37272d3011d58", func := "strake/strakelaw06.InterpRuns", spec := "interpRuns", unfollowed := true, recurses := true, apart := false, narrowed := true }
def InterpRunsUptoSaid : Prop := interpRunsUptoRow.holds Tryz.pinned (OpenSpec.upto interpRunsSpec)

/-- 'strakelaw16.SpanOf', WHERE WHAT IT READS IS OF BULK AT MOST 1048576: true; the input reads as it did. -/
def spanOfUptoRow : OpenClaim := { program := "ytagabiidbbhhmaagreat", sum := "d85af484205f9136a8bcb46a73cb39537cf914dce47c3d7b8be37272d3011d58", func := "strake/strakelaw16.SpanOf", spec := "spanOf", inPlace := ["math/bits.Add64", "math/bits.Sub64"], unfollowed := true, recurses := true, apart := false, narrowed := true }
def SpanOfUptoSaid : Prop := spanOfUptoRow.holds Tryz.pinned (OpenSpec.upto spanOfSpec)

/-- 'strakelaw16.SpanReturns', WHERE WHAT IT READS IS OF BULK AT MOST 1048576: true; the input reads as it did. -/
def spanReturnsUptoRow : OpenClaim := { program := "ytagabiidbbhhmaagreat", sum := "d85af484205f9136a8bcb46a73cb39537cf914dce47c3d7b8be37272d3011d58", func := "strake/strakelaw16.SpanReturns", spec := "spanReturns", inPlace := ["math/bits.Add64", "math/bits.Sub64"], unfollowed := true, recurses := true, apart := false, narrowed := true }
def SpanReturnsUptoSaid : Prop := spanReturnsUptoRow.holds Tryz.pinned (OpenSpec.upto spanReturnsSpec)

/-- 'strakelaw07.EditUnseen', WHERE WHAT IT READS IS OF BULK AT MOST 1048576: true; the input reads as it did. -/
def editUnseenUptoRow : OpenClaim := { program := "ytagabiidbbhhmaagreat", sum := "d85af484205f9136a8bcb46a73cb39537cf914dce47c3d7b8be37272d3011d58", func := "strake/strakelaw07.EditUnseen", spec := "editUnseen", unfollowed := true, recurses := true, apart := false, narrowed := true }
def EditUnseenUptoSaid : Prop := editUnseenUptoRow.holds Tryz.pinned (OpenSpec.upto editUnseenSpec)

/-- 'strakelaw07.EditSame', WHERE WHAT IT READS IS OF BULK AT MOST 1048576: true; the input reads as it did. -/
def editSameUptoRow : OpenClaim := { program := "ytagabiidbbhhmaagreat", sum := "d85af484205f9136a8bcb46a73cb39537cf914dce47c3d7b8be37272d3011d58", func := "strake/strakelaw07.EditSame", spec := "editSame", unfollowed := true, recurses := true, apart := false, narrowed := true }
def EditSameUptoSaid : Prop := editSameUptoRow.holds Tryz.pinned (OpenSpec.upto editSameSpec)

end Rows
end Go.Proofs.YtagabiidbbhhmaaGreat
