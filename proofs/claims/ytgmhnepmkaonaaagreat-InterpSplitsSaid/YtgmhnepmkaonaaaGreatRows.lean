/-
  No cell of these rows narrows 'for every input' (looked for: loops, veiled, ifaces, maps, wideKeys, modest, calm, conditions, laid).
  DERIVED. THE GIVEN ROWS OF THIS SEAT. 11 by the template 'for every input the law returns true; each argument reads behind the call as it read before'; 0 by the template 'total and deterministic' (their statements: YtgmhnepmkaonaaaGreatTotals.lean).
  GIVEN WITH THE SEED: the statements are not yours to turn. If you find one false, say at which input.
  Laid BY PROGRAM, IN A SANDBOX (cutbox-rows.mjs): the forced cells as the released guide's own fill.sh prints them over the translation a41d7d6d6b78280a… (all of the seat's roots in one cut). By AI agents, Wed Nov 11 2026. No macro, syntax, notation, axiom, sorry.
-/
import Derived.Test.YtgmhnepmkaonaaaGreatChecked
import GoSem.Claim
import GoSem.ClaimJoined
import GoSem.ClaimMapViews
import Derived.JoinedTies
import Derived.KernelRfl
namespace Go.Proofs.YtgmhnepmkaonaaaGreat
/- THE CELL 'sum', in the pinned program and in every row, IS THE sha256 OF THE DUMP (.gsa) THAT YtgmhnepmkaonaaaGreatProg.lean LOADS. Nothing in Lean hashes anything: it is a label: what it is worth is what the hold of that sum in a sandbox is worth. -/
noncomputable def Tryz.pinned : Pinned := { name := "ytgmhnepmkaonaaagreat", sum := "a41d7d6d6b78280a92b8ba8def4fa546418884e7248d7f1add6cd4e178abed3a", checked := Tryz.checked }
namespace Rows
def none {H : Type} : Left H := { results := [], args := [] }

/-- 'strakelaw07.EditRenames': WHATEVER THE INPUT: true; the input reads as it did. -/
def editRenamesSpec : ChangeSpec := { name := "editRenames", fn := fun _ => fun
  | [d1, d2] => { results := [.lit (.bool true)], args := [d1, d2] }
  | _ => none }
def editRenamesRow : OpenClaim := { program := "ytgmhnepmkaonaaagreat", sum := "a41d7d6d6b78280a92b8ba8def4fa546418884e7248d7f1add6cd4e178abed3a", func := "strake/strakelaw07.EditRenames", spec := "editRenames", unfollowed := true, recurses := true, apart := false }
def EditRenamesSaid : Prop := editRenamesRow.holds Tryz.pinned (OpenSpec.ofChange editRenamesSpec)

/-- ITS FALSE NEIGHBOUR: 'it returns false'. Refute it at one input. -/
def editRenamesWrong : ChangeSpec := { name := "editRenames", fn := fun _ => fun
  | [d1, d2] => { results := [.lit (.bool false)], args := [d1, d2] }
  | _ => none }
def EditRenamesWrongFalsely : Prop := editRenamesRow.holds Tryz.pinned (OpenSpec.ofChange editRenamesWrong)

/-- 'strakelaw07.EditReplaces': WHATEVER THE INPUT: true; the input reads as it did. -/
def editReplacesSpec : ChangeSpec := { name := "editReplaces", fn := fun _ => fun
  | [d1, d2, d3] => { results := [.lit (.bool true)], args := [d1, d2, d3] }
  | _ => none }
def editReplacesRow : OpenClaim := { program := "ytgmhnepmkaonaaagreat", sum := "a41d7d6d6b78280a92b8ba8def4fa546418884e7248d7f1add6cd4e178abed3a", func := "strake/strakelaw07.EditReplaces", spec := "editReplaces", unfollowed := true, recurses := true, apart := false }
def EditReplacesSaid : Prop := editReplacesRow.holds Tryz.pinned (OpenSpec.ofChange editReplacesSpec)

/-- ITS FALSE NEIGHBOUR: 'it returns false'. Refute it at one input. -/
def editReplacesWrong : ChangeSpec := { name := "editReplaces", fn := fun _ => fun
  | [d1, d2, d3] => { results := [.lit (.bool false)], args := [d1, d2, d3] }
  | _ => none }
def EditReplacesWrongFalsely : Prop := editReplacesRow.holds Tryz.pinned (OpenSpec.ofChange editReplacesWrong)

/-- 'strakelaw07.EditBack': WHATEVER THE INPUT: true; the input reads as it did. -/
def editBackSpec : ChangeSpec := { name := "editBack", fn := fun _ => fun
  | [d1, d2, d3] => { results := [.lit (.bool true)], args := [d1, d2, d3] }
  | _ => none }
def editBackRow : OpenClaim := { program := "ytgmhnepmkaonaaagreat", sum := "a41d7d6d6b78280a92b8ba8def4fa546418884e7248d7f1add6cd4e178abed3a", func := "strake/strakelaw07.EditBack", spec := "editBack", unfollowed := true, recurses := true, apart := false }
def EditBackSaid : Prop := editBackRow.holds Tryz.pinned (OpenSpec.ofChange editBackSpec)

/-- ITS FALSE NEIGHBOUR: 'it returns false'. Refute it at one input. -/
def editBackWrong : ChangeSpec := { name := "editBack", fn := fun _ => fun
  | [d1, d2, d3] => { results := [.lit (.bool false)], args := [d1, d2, d3] }
  | _ => none }
def EditBackWrongFalsely : Prop := editBackRow.holds Tryz.pinned (OpenSpec.ofChange editBackWrong)

/-- 'strakelaw06.InterpRuns': WHATEVER THE INPUT: true; the input reads as it did. -/
def interpRunsSpec : ChangeSpec := { name := "interpRuns", fn := fun _ => fun
  | [d1, d2, d3] => { results := [.lit (.bool true)], args := [d1, d2, d3] }
  | _ => none }
def interpRunsRow : OpenClaim := { program := "ytgmhnepmkaonaaagreat", sum := "a41d7d6d6b78280a92b8ba8def4fa546418884e7248d7f1add6cd4e178abed3a", func := "strake/strakelaw06.InterpRuns", spec := "interpRuns", unfollowed := true, recurses := true, apart := false }
def InterpRunsSaid : Prop := interpRunsRow.holds Tryz.pinned (OpenSpec.ofChange interpRunsSpec)

/-- ITS FALSE NEIGHBOUR: 'it returns false'. Refute it at one input. -/
def interpRunsWrong : ChangeSpec := { name := "interpRuns", fn := fun _ => fun
  | [d1, d2, d3] => { results := [.lit (.bool false)], args := [d1, d2, d3] }
  | _ => none }
def InterpRunsWrongFalsely : Prop := interpRunsRow.holds Tryz.pinned (OpenSpec.ofChange interpRunsWrong)

/-- 'strakelaw06.InterpEnds': WHATEVER THE INPUT: true; the input reads as it did. -/
def interpEndsSpec : ChangeSpec := { name := "interpEnds", fn := fun _ => fun
  | [d1, d2, d3] => { results := [.lit (.bool true)], args := [d1, d2, d3] }
  | _ => none }
def interpEndsRow : OpenClaim := { program := "ytgmhnepmkaonaaagreat", sum := "a41d7d6d6b78280a92b8ba8def4fa546418884e7248d7f1add6cd4e178abed3a", func := "strake/strakelaw06.InterpEnds", spec := "interpEnds", unfollowed := true, recurses := true, apart := false }
def InterpEndsSaid : Prop := interpEndsRow.holds Tryz.pinned (OpenSpec.ofChange interpEndsSpec)

/-- ITS FALSE NEIGHBOUR: 'it returns false'. Refute it at one input. -/
def interpEndsWrong : ChangeSpec := { name := "interpEnds", fn := fun _ => fun
  | [d1, d2, d3] => { results := [.lit (.bool false)], args := [d1, d2, d3] }
  | _ => none }
def InterpEndsWrongFalsely : Prop := interpEndsRow.holds Tryz.pinned (OpenSpec.ofChange interpEndsWrong)

/-- 'strakelaw09.LoopsFound': WHATEVER THE INPUT: true; the input reads as it did. -/
def loopsFoundSpec : ChangeSpec := { name := "loopsFound", fn := fun _ => fun
  | [d] => { results := [.lit (.bool true)], args := [d] }
  | _ => none }
def loopsFoundRow : OpenClaim := { program := "ytgmhnepmkaonaaagreat", sum := "a41d7d6d6b78280a92b8ba8def4fa546418884e7248d7f1add6cd4e178abed3a", func := "strake/strakelaw09.LoopsFound", spec := "loopsFound", inPlace := ["slices.overlaps[int]"], unfollowed := true, recurses := true, apart := false }
def LoopsFoundSaid : Prop := loopsFoundRow.holds Tryz.pinned (OpenSpec.ofChange loopsFoundSpec)

/-- ITS FALSE NEIGHBOUR: 'it returns false'. Refute it at one input. -/
def loopsFoundWrong : ChangeSpec := { name := "loopsFound", fn := fun _ => fun
  | [d] => { results := [.lit (.bool false)], args := [d] }
  | _ => none }
def LoopsFoundWrongFalsely : Prop := loopsFoundRow.holds Tryz.pinned (OpenSpec.ofChange loopsFoundWrong)

/-- 'strakelaw09.LoopsDepths': WHATEVER THE INPUT: true; the input reads as it did. -/
def loopsDepthsSpec : ChangeSpec := { name := "loopsDepths", fn := fun _ => fun
  | [d] => { results := [.lit (.bool true)], args := [d] }
  | _ => none }
def loopsDepthsRow : OpenClaim := { program := "ytgmhnepmkaonaaagreat", sum := "a41d7d6d6b78280a92b8ba8def4fa546418884e7248d7f1add6cd4e178abed3a", func := "strake/strakelaw09.LoopsDepths", spec := "loopsDepths", inPlace := ["slices.overlaps[int]"], unfollowed := true, recurses := true, apart := false }
def LoopsDepthsSaid : Prop := loopsDepthsRow.holds Tryz.pinned (OpenSpec.ofChange loopsDepthsSpec)

/-- ITS FALSE NEIGHBOUR: 'it returns false'. Refute it at one input. -/
def loopsDepthsWrong : ChangeSpec := { name := "loopsDepths", fn := fun _ => fun
  | [d] => { results := [.lit (.bool false)], args := [d] }
  | _ => none }
def LoopsDepthsWrongFalsely : Prop := loopsDepthsRow.holds Tryz.pinned (OpenSpec.ofChange loopsDepthsWrong)

/-- 'strakelaw07.EditUnseen': WHATEVER THE INPUT: true; the input reads as it did. -/
def editUnseenSpec : ChangeSpec := { name := "editUnseen", fn := fun _ => fun
  | [d1, d2, d3] => { results := [.lit (.bool true)], args := [d1, d2, d3] }
  | _ => none }
def editUnseenRow : OpenClaim := { program := "ytgmhnepmkaonaaagreat", sum := "a41d7d6d6b78280a92b8ba8def4fa546418884e7248d7f1add6cd4e178abed3a", func := "strake/strakelaw07.EditUnseen", spec := "editUnseen", unfollowed := true, recurses := true, apart := false }
def EditUnseenSaid : Prop := editUnseenRow.holds Tryz.pinned (OpenSpec.ofChange editUnseenSpec)

/-- ITS FALSE NEIGHBOUR: 'it returns false'. Refute it at one input. -/
def editUnseenWrong : ChangeSpec := { name := "editUnseen", fn := fun _ => fun
  | [d1, d2, d3] => { results := [.lit (.bool false)], args := [d1, d2, d3] }
  | _ => none }
def EditUnseenWrongFalsely : Prop := editUnseenRow.holds Tryz.pinned (OpenSpec.ofChange editUnseenWrong)

/-- 'strakelaw06.InterpSplits': WHATEVER THE INPUT: true; the input reads as it did. -/
def interpSplitsSpec : ChangeSpec := { name := "interpSplits", fn := fun _ => fun
  | [d1, d2, d3, d4] => { results := [.lit (.bool true)], args := [d1, d2, d3, d4] }
  | _ => none }
def interpSplitsRow : OpenClaim := { program := "ytgmhnepmkaonaaagreat", sum := "a41d7d6d6b78280a92b8ba8def4fa546418884e7248d7f1add6cd4e178abed3a", func := "strake/strakelaw06.InterpSplits", spec := "interpSplits", unfollowed := true, recurses := true, apart := false }
def InterpSplitsSaid : Prop := interpSplitsRow.holds Tryz.pinned (OpenSpec.ofChange interpSplitsSpec)

/-- ITS FALSE NEIGHBOUR: 'it returns false'. Refute it at one input. -/
def interpSplitsWrong : ChangeSpec := { name := "interpSplits", fn := fun _ => fun
  | [d1, d2, d3, d4] => { results := [.lit (.bool false)], args := [d1, d2, d3, d4] }
  | _ => none }
def InterpSplitsWrongFalsely : Prop := interpSplitsRow.holds Tryz.pinned (OpenSpec.ofChange interpSplitsWrong)

/-- 'strakelaw07.EditSame': WHATEVER THE INPUT: true; the input reads as it did. -/
def editSameSpec : ChangeSpec := { name := "editSame", fn := fun _ => fun
  | [d1, d2] => { results := [.lit (.bool true)], args := [d1, d2] }
  | _ => none }
def editSameRow : OpenClaim := { program := "ytgmhnepmkaonaaagreat", sum := "a41d7d6d6b78280a92b8ba8def4fa546418884e7248d7f1add6cd4e178abed3a", func := "strake/strakelaw07.EditSame", spec := "editSame", unfollowed := true, recurses := true, apart := false }
def EditSameSaid : Prop := editSameRow.holds Tryz.pinned (OpenSpec.ofChange editSameSpec)

/-- ITS FALSE NEIGHBOUR: 'it returns false'. Refute it at one input. -/
def editSameWrong : ChangeSpec := { name := "editSame", fn := fun _ => fun
  | [d1, d2] => { results := [.lit (.bool false)], args := [d1, d2] }
  | _ => none }
def EditSameWrongFalsely : Prop := editSameRow.holds Tryz.pinned (OpenSpec.ofChange editSameWrong)

/-- 'strakelaw09.LoopsEnds': WHATEVER THE INPUT: true; the input reads as it did. -/
def loopsEndsSpec : ChangeSpec := { name := "loopsEnds", fn := fun _ => fun
  | [d1, d2] => { results := [.lit (.bool true)], args := [d1, d2] }
  | _ => none }
def loopsEndsRow : OpenClaim := { program := "ytgmhnepmkaonaaagreat", sum := "a41d7d6d6b78280a92b8ba8def4fa546418884e7248d7f1add6cd4e178abed3a", func := "strake/strakelaw09.LoopsEnds", spec := "loopsEnds", inPlace := ["slices.overlaps[int]"], unfollowed := true, recurses := true, apart := false }
def LoopsEndsSaid : Prop := loopsEndsRow.holds Tryz.pinned (OpenSpec.ofChange loopsEndsSpec)

/-- ITS FALSE NEIGHBOUR: 'it returns false'. Refute it at one input. -/
def loopsEndsWrong : ChangeSpec := { name := "loopsEnds", fn := fun _ => fun
  | [d1, d2] => { results := [.lit (.bool false)], args := [d1, d2] }
  | _ => none }
def LoopsEndsWrongFalsely : Prop := loopsEndsRow.holds Tryz.pinned (OpenSpec.ofChange loopsEndsWrong)

/- THE SECOND FORM. 'bulk': how many values and letters a reading holds, each counted each time it is reached (what is shared counts as often as it is met; a slice's spare places count too). A statement '..UptoSaid' is the law's where the arguments, and the package variables that the reading takes, are together of bulk at most 1048576: NARROWER than '..Said'. Prove '..Said' where nothing that the law and all that it calls make is longer than what came in: it says more and counts as full. Else prove '..UptoSaid'. A law counts once. -/
mutual
def uptoBulk {H : Type} : DataW H → Nat
  | .lit (.string bytes) => bytes.length + 1
  | .lit _ => 1
  | .nil => 1
  | .ptr d => uptoBulk d + 1
  | .slice elems spare => uptoBulkAll elems + uptoBulkAll spare + 1
  | .agg parts => uptoBulkAll parts + 1
  | .iface _ d => uptoBulk d + 1
  | .map entries => uptoBulkEntries entries + 1
  | .held _ => 1
def uptoBulkAll {H : Type} : List (DataW H) → Nat
  | [] => 0
  | d :: r => uptoBulk d + uptoBulkAll r
def uptoBulkEntries {H : Type} : List (Lit × DataW H) → Nat
  | [] => 0
  | x :: r => uptoBulkEntry x + uptoBulkEntries r
def uptoBulkEntry {H : Type} : Lit × DataW H → Nat
  | (.string bytes, d) => bytes.length + uptoBulk d + 1
  | (_, d) => uptoBulk d + 1
 end
def uptoSmall : (H : Type) → List (DataW H) → Bool := fun _ ds => decide (uptoBulkAll ds ≤ 1048576)
def OpenSpec.upto (s : _root_.Go.ChangeSpec) : _root_.Go.OpenSpec := { _root_.Go.OpenSpec.ofChange s with cond := some uptoSmall }

/-- 'strakelaw07.EditRenames', WHERE WHAT IT READS IS OF BULK AT MOST 1048576: true; the input reads as it did. -/
def editRenamesUptoRow : OpenClaim := { program := "ytgmhnepmkaonaaagreat", sum := "a41d7d6d6b78280a92b8ba8def4fa546418884e7248d7f1add6cd4e178abed3a", func := "strake/strakelaw07.EditRenames", spec := "editRenames", unfollowed := true, recurses := true, apart := false, narrowed := true }
def EditRenamesUptoSaid : Prop := editRenamesUptoRow.holds Tryz.pinned (OpenSpec.upto editRenamesSpec)

/-- 'strakelaw07.EditReplaces', WHERE WHAT IT READS IS OF BULK AT MOST 1048576: true; the input reads as it did. -/
def editReplacesUptoRow : OpenClaim := { program := "ytgmhnepmkaonaaagreat", sum := "a41d7d6d6b78280a92b8ba8def4fa546418884e7248d7f1add6cd4e178abed3a", func := "strake/strakelaw07.EditReplaces", spec := "editReplaces", unfollowed := true, recurses := true, apart := false, narrowed := true }
def EditReplacesUptoSaid : Prop := editReplacesUptoRow.holds Tryz.pinned (OpenSpec.upto editReplacesSpec)

/-- 'strakelaw07.EditBack', WHERE WHAT IT READS IS OF BULK AT MOST 1048576: true; the input reads as it did. -/
def editBackUptoRow : OpenClaim := { program := "ytgmhnepmkaonaaagreat", sum := "a41d7d6d6b78280a92b8ba8def4fa546418884e7248d7f1add6cd4e178abed3a", func := "strake/strakelaw07.EditBack", spec := "editBack", unfollowed := true, recurses := true, apart := false, narrowed := true }
def EditBackUptoSaid : Prop := editBackUptoRow.holds Tryz.pinned (OpenSpec.upto editBackSpec)

/-- 'strakelaw06.InterpRuns', WHERE WHAT IT READS IS OF BULK AT MOST 1048576: true; the input reads as it did. -/
def interpRunsUptoRow : OpenClaim := { program := "ytgmhnepmkaonaaagreat", sum := "a41d7d6d6b78280a92b8ba8def4fa546418884e7248d7f1add6cd4e178abed3a", func := "strake/strakelaw06.InterpRuns", spec := "interpRuns", unfollowed := true, recurses := true, apart := false, narrowed := true }
def InterpRunsUptoSaid : Prop := interpRunsUptoRow.holds Tryz.pinned (OpenSpec.upto interpRunsSpec)

/-- 'strakelaw06.InterpEnds', WHERE WHAT IT READS IS OF BULK AT MOST 1048576: true; the input reads as it did. -/
def interpEndsUptoRow : OpenClaim := { program := "ytgmhnepmkaonaaagreat", sum := "a41d7d6d6b78280a92b8ba8def4fa546418884e7248d7f1add6cd4e178abed3a", func := "strake/strakelaw06.InterpEnds", spec := "interpEnds", unfollowed := true, recurses := true, apart := false, narrowed := true }
def InterpEndsUptoSaid : Prop := interpEndsUptoRow.holds Tryz.pinned (OpenSpec.upto interpEndsSpec)

/-- 'strakelaw09.LoopsFound', WHERE WHAT IT READS IS OF BULK AT MOST 1048576: true; the input reads as it did. -/
def loopsFoundUptoRow : OpenClaim := { program := "ytgmhnepmkaonaaagreat", sum := "a41d7d6d6b78280a92b8ba8def4fa546418884e7248d7f1add6cd4e178abed3a", func := "strake/strakelaw09.LoopsFound", spec := "loopsFound", inPlace := ["slices.overlaps[int]"], unfollowed := true, recurses := true, apart := false, narrowed := true }
def LoopsFoundUptoSaid : Prop := loopsFoundUptoRow.holds Tryz.pinned (OpenSpec.upto loopsFoundSpec)

/-- 'strakelaw09.LoopsDepths', WHERE WHAT IT READS IS OF BULK AT MOST 1048576: true; the input reads as it did. -/
def loopsDepthsUptoRow : OpenClaim := { program := "ytgmhnepmkaonaaagreat", sum := "a41d7d6d6b78280a92b8ba8def4fa546418884e7248d7f1add6cd4e178abed3a", func := "strake/strakelaw09.LoopsDepths", spec := "loopsDepths", inPlace := ["slices.overlaps[int]"], unfollowed := true, recurses := true, apart := false, narrowed := true }
def LoopsDepthsUptoSaid : Prop := loopsDepthsUptoRow.holds Tryz.pinned (OpenSpec.upto loopsDepthsSpec)

/-- 'strakelaw07.EditUnseen', WHERE WHAT IT READS IS OF BULK AT MOST 1048576: true; the input reads as it did. -/
def editUnseenUptoRow : OpenClaim := { program := "ytgmhnepmkaonaaagreat", sum := "a41d7d6d6b78280a92b8ba8def4fa546418884e7248d7f1add6cd4e178abed3a", func := "strake/strakelaw07.EditUnseen", spec := "editUnseen", unfollowed := true, recurses := true, apart := false, narrowed := true }
def EditUnseenUptoSaid : Prop := editUnseenUptoRow.holds Tryz.pinned (OpenSpec.upto editUnseenSpec)

/-- 'strakelaw06.InterpSplits', WHERE WHAT IT READS IS OF BULK AT MOST 1048576: true; the input reads as it did. -/
def interpSplitsUptoRow : OpenClaim := { program := "ytgmhnepmkaonaaagreat", sum := "a41d7d6d6b78280a92b8ba8def4fa546418884e7248d7f1add6cd4e178abed3a", func := "strake/strakelaw06.InterpSplits", spec := "interpSplits", unfollowed := true, recurses := true, apart := false, narrowed := true }
def InterpSplitsUptoSaid : Prop := interpSplitsUptoRow.holds Tryz.pinned (OpenSpec.upto interpSplitsSpec)

/-- 'strakelaw07.EditSame', WHERE WHAT IT READS IS OF BULK AT MOST 1048576: true; the input reads as it did. -/
def editSameUptoRow : OpenClaim := { program := "ytgmhnepmkaonaaagreat", sum := "a41d7d6d6b78280a92b8ba8def4fa546418884e7248d7f1add6cd4e178abed3a", func := "strake/strakelaw07.EditSame", spec := "editSame", unfollowed := true, recurses := true, apart := false, narrowed := true }
def EditSameUptoSaid : Prop := editSameUptoRow.holds Tryz.pinned (OpenSpec.upto editSameSpec)

/-- 'strakelaw09.LoopsEnds', WHERE WHAT IT READS IS OF BULK AT MOST 1048576: true; the input reads as it did. -/
def loopsEndsUptoRow : OpenClaim := { program := "ytgmhnepmkaonaaagreat", sum := "a41d7d6d6b78280a92b8ba8def4fa546418884e7248d7f1add6cd4e178abed3a", func := "strake/strakelaw09.LoopsEnds", spec := "loopsEnds", inPlace := ["slices.overlaps[int]"], unfollowed := true, recurses := true, apart := false, narrowed := true }
def LoopsEndsUptoSaid : Prop := loopsEndsUptoRow.holds Tryz.pinned (OpenSpec.upto loopsEndsSpec)

end Rows
end Go.Proofs.YtgmhnepmkaonaaaGreat
