/-
  No cell of these rows narrows 'for every input' (looked for: loops, veiled, ifaces, maps, wideKeys, modest, calm, conditions, laid).
  DERIVED. THE GIVEN ROWS OF THIS SEAT. 7 by the template 'for every input the law returns true; each argument reads behind the call as it read before'; 0 by the template 'total and deterministic' (their statements: YtcmflfkpeodicaaGreatTotals.lean).
  GIVEN WITH THE SEED: the statements are not yours to turn. If you find one false, say at which input.
  Laid BY PROGRAM, IN A SANDBOX (cutbox-rows.mjs): the forced cells as the released guide's own fill.sh prints them over the translation 774e248af7c90bb3… (all of the seat's roots in one cut). By AI agents, Wed Nov 11 2026. No macro, syntax, notation, axiom, sorry.
-/
import Derived.Test.YtcmflfkpeodicaaGreatChecked
import GoSem.Claim
import GoSem.ClaimJoined
import GoSem.ClaimMapViews
import Derived.JoinedTies
import Derived.KernelRfl
namespace Go.Proofs.YtcmflfkpeodicaaGreat
/- THE CELL 'sum', in the pinned program and in every row, IS THE sha256 OF THE DUMP (.gsa) THAT YtcmflfkpeodicaaGreatProg.lean LOADS. Nothing in Lean hashes anything: it is a label: what it is worth is what the hold of that sum in a sandbox is worth. -/
noncomputable def Tryz.pinned : Pinned := { name := "ytcmflfkpeodicaagreat", sum := "774e248af7c90bb34830c8839e32b97fc8a0d42514818fde5636254b817357eb", checked := Tryz.checked }
namespace Rows
def none {H : Type} : Left H := { results := [], args := [] }

/-- 'strakelaw06.InterpRuns': WHATEVER THE INPUT: true; the input reads as it did. -/
def interpRunsSpec : ChangeSpec := { name := "interpRuns", fn := fun _ => fun
  | [d1, d2, d3] => { results := [.lit (.bool true)], args := [d1, d2, d3] }
  | _ => none }
def interpRunsRow : OpenClaim := { program := "ytcmflfkpeodicaagreat", sum := "774e248af7c90bb34830c8839e32b97fc8a0d42514818fde5636254b817357eb", func := "strake/strakelaw06.InterpRuns", spec := "interpRuns", unfollowed := true, recurses := true, apart := false }
def InterpRunsSaid : Prop := interpRunsRow.holds Tryz.pinned (OpenSpec.ofChange interpRunsSpec)

/-- ITS FALSE NEIGHBOUR: 'it returns false'. Refute it at one input. -/
def interpRunsWrong : ChangeSpec := { name := "interpRuns", fn := fun _ => fun
  | [d1, d2, d3] => { results := [.lit (.bool false)], args := [d1, d2, d3] }
  | _ => none }
def InterpRunsWrongFalsely : Prop := interpRunsRow.holds Tryz.pinned (OpenSpec.ofChange interpRunsWrong)

/-- 'strakelaw16.SpanOf': WHATEVER THE INPUT: true; the input reads as it did. -/
def spanOfSpec : ChangeSpec := { name := "spanOf", fn := fun _ => fun
  | [d] => { results := [.lit (.bool true)], args := [d] }
  | _ => none }
def spanOfRow : OpenClaim := { program := "ytcmflfkpeodicaagreat", sum := "774e248af7c90bb34830c8839e32b97fc8a0d42514818fde5636254b817357eb", func := "strake/strakelaw16.SpanOf", spec := "spanOf", inPlace := ["math/bits.Add64", "math/bits.Sub64"], unfollowed := true, recurses := true, apart := false }
def SpanOfSaid : Prop := spanOfRow.holds Tryz.pinned (OpenSpec.ofChange spanOfSpec)

/-- ITS FALSE NEIGHBOUR: 'it returns false'. Refute it at one input. -/
def spanOfWrong : ChangeSpec := { name := "spanOf", fn := fun _ => fun
  | [d] => { results := [.lit (.bool false)], args := [d] }
  | _ => none }
def SpanOfWrongFalsely : Prop := spanOfRow.holds Tryz.pinned (OpenSpec.ofChange spanOfWrong)

/-- 'strakelaw16.SpanReturns': WHATEVER THE INPUT: true; the input reads as it did. -/
def spanReturnsSpec : ChangeSpec := { name := "spanReturns", fn := fun _ => fun
  | [d1, d2] => { results := [.lit (.bool true)], args := [d1, d2] }
  | _ => none }
def spanReturnsRow : OpenClaim := { program := "ytcmflfkpeodicaagreat", sum := "774e248af7c90bb34830c8839e32b97fc8a0d42514818fde5636254b817357eb", func := "strake/strakelaw16.SpanReturns", spec := "spanReturns", inPlace := ["math/bits.Add64", "math/bits.Sub64"], unfollowed := true, recurses := true, apart := false }
def SpanReturnsSaid : Prop := spanReturnsRow.holds Tryz.pinned (OpenSpec.ofChange spanReturnsSpec)

/-- ITS FALSE NEIGHBOUR: 'it returns false'. Refute it at one input. -/
def spanReturnsWrong : ChangeSpec := { name := "spanReturns", fn := fun _ => fun
  | [d1, d2] => { results := [.lit (.bool false)], args := [d1, d2] }
  | _ => none }
def SpanReturnsWrongFalsely : Prop := spanReturnsRow.holds Tryz.pinned (OpenSpec.ofChange spanReturnsWrong)

/-- 'strakelaw08.RepairBuilds': WHATEVER THE INPUT: true; the input reads as it did. -/
def repairBuildsSpec : ChangeSpec := { name := "repairBuilds", fn := fun _ => fun
  | [d] => { results := [.lit (.bool true)], args := [d] }
  | _ => none }
def repairBuildsRow : OpenClaim := { program := "ytcmflfkpeodicaagreat", sum := "774e248af7c90bb34830c8839e32b97fc8a0d42514818fde5636254b817357eb", func := "strake/strakelaw08.RepairBuilds", spec := "repairBuilds", inPlace := ["slices.overlaps[int]"], unfollowed := true, recurses := true, apart := false }
def RepairBuildsSaid : Prop := repairBuildsRow.holds Tryz.pinned (OpenSpec.ofChange repairBuildsSpec)

/-- ITS FALSE NEIGHBOUR: 'it returns false'. Refute it at one input. -/
def repairBuildsWrong : ChangeSpec := { name := "repairBuilds", fn := fun _ => fun
  | [d] => { results := [.lit (.bool false)], args := [d] }
  | _ => none }
def RepairBuildsWrongFalsely : Prop := repairBuildsRow.holds Tryz.pinned (OpenSpec.ofChange repairBuildsWrong)

/-- 'strakelaw08.RepairLowers': WHATEVER THE INPUT: true; the input reads as it did. -/
def repairLowersSpec : ChangeSpec := { name := "repairLowers", fn := fun _ => fun
  | [d] => { results := [.lit (.bool true)], args := [d] }
  | _ => none }
def repairLowersRow : OpenClaim := { program := "ytcmflfkpeodicaagreat", sum := "774e248af7c90bb34830c8839e32b97fc8a0d42514818fde5636254b817357eb", func := "strake/strakelaw08.RepairLowers", spec := "repairLowers", inPlace := ["slices.overlaps[int]"], unfollowed := true, recurses := true, apart := false }
def RepairLowersSaid : Prop := repairLowersRow.holds Tryz.pinned (OpenSpec.ofChange repairLowersSpec)

/-- ITS FALSE NEIGHBOUR: 'it returns false'. Refute it at one input. -/
def repairLowersWrong : ChangeSpec := { name := "repairLowers", fn := fun _ => fun
  | [d] => { results := [.lit (.bool false)], args := [d] }
  | _ => none }
def RepairLowersWrongFalsely : Prop := repairLowersRow.holds Tryz.pinned (OpenSpec.ofChange repairLowersWrong)

/-- 'strakelaw08.RepairRuns': WHATEVER THE INPUT: true; the input reads as it did. -/
def repairRunsSpec : ChangeSpec := { name := "repairRuns", fn := fun _ => fun
  | [d1, d2, d3] => { results := [.lit (.bool true)], args := [d1, d2, d3] }
  | _ => none }
def repairRunsRow : OpenClaim := { program := "ytcmflfkpeodicaagreat", sum := "774e248af7c90bb34830c8839e32b97fc8a0d42514818fde5636254b817357eb", func := "strake/strakelaw08.RepairRuns", spec := "repairRuns", inPlace := ["slices.overlaps[int]"], unfollowed := true, recurses := true, apart := false }
def RepairRunsSaid : Prop := repairRunsRow.holds Tryz.pinned (OpenSpec.ofChange repairRunsSpec)

/-- ITS FALSE NEIGHBOUR: 'it returns false'. Refute it at one input. -/
def repairRunsWrong : ChangeSpec := { name := "repairRuns", fn := fun _ => fun
  | [d1, d2, d3] => { results := [.lit (.bool false)], args := [d1, d2, d3] }
  | _ => none }
def RepairRunsWrongFalsely : Prop := repairRunsRow.holds Tryz.pinned (OpenSpec.ofChange repairRunsWrong)

/-- 'strakelaw08.RepairPlaces': WHATEVER THE INPUT: true; the input reads as it did. -/
def repairPlacesSpec : ChangeSpec := { name := "repairPlaces", fn := fun _ => fun
  | [d] => { results := [.lit (.bool true)], args := [d] }
  | _ => none }
def repairPlacesRow : OpenClaim := { program := "ytcmflfkpeodicaagreat", sum := "774e248af7c90bb34830c8839e32b97fc8a0d42514818fde5636254b817357eb", func := "strake/strakelaw08.RepairPlaces", spec := "repairPlaces", inPlace := ["slices.overlaps[int]"], unfollowed := true, recurses := true, apart := false }
def RepairPlacesSaid : Prop := repairPlacesRow.holds Tryz.pinned (OpenSpec.ofChange repairPlacesSpec)

/-- ITS FALSE NEIGHBOUR: 'it returns false'. Refute it at one input. -/
def repairPlacesWrong : ChangeSpec := { name := "repairPlaces", fn := fun _ => fun
  | [d] => { results := [.lit (.bool false)], args := [d] }
  | _ => none }
def RepairPlacesWrongFalsely : Prop := repairPlacesRow.holds Tryz.pinned (OpenSpec.ofChange repairPlacesWrong)

/- THE SECOND FORM. 'bulk': how many values and letters a reading holds, each counted each time it is reached (what is shared counts as often as it is met; a slice's spare places count too). A statement '..UptoSaid' is the law's where the arguments, and the package variables that the reading takes, are together of bulk at most 1048576: NARROWER than '..Said'. Prove '..Said' where nothing that the law and all that it calls make is longer than what came in: it says more and counts as full. Else prove '..UptoSaid'. A law counts once. -/
mutual
def uptoBulk {H : Type} : DataW H → Nat
  | .lit (.string bytes) => bytes.length + 1
  | .lit _ => 1
  | .nil => 1
  | .ptr d => uptoBulk d + 1
  | .slice elems spare => uptoBulkAll elems + uptoBulkAll spare + 1
  | .agg parts => uptoBulkAll parts + 1
  | .iface _ d => uptoBulk d + 1
  | .map entries => uptoBulkEntries entries + 1
  | .held _ => 1
def uptoBulkAll {H : Type} : List (DataW H) → Nat
  | [] => 0
  | d :: r => uptoBulk d + uptoBulkAll r
def uptoBulkEntries {H : Type} : List (Lit × DataW H) → Nat
  | [] => 0
  | x :: r => uptoBulkEntry x + uptoBulkEntries r
def uptoBulkEntry {H : Type} : Lit × DataW H → Nat
  | (.string bytes, d) => bytes.length + uptoBulk d + 1
  | (_, d) => uptoBulk d + 1
 end
def uptoSmall : (H : Type) → List (DataW H) → Bool := fun _ ds => decide (uptoBulkAll ds ≤ 1048576)
def OpenSpec.upto (s : _root_.Go.ChangeSpec) : _root_.Go.OpenSpec := { _root_.Go.OpenSpec.ofChange s with cond := some uptoSmall }

/-- 'strakelaw06.InterpRuns', WHERE WHAT IT READS IS OF BULK AT MOST 1048576: true; the input reads as it did. -/
def interpRunsUptoRow : OpenClaim := { program := "ytcmflfkpeodicaagreat", sum := "774e248af7c90bb34830c8839e32b97fc8a0d42514818fde5636254b817357eb", func := "strake/strakelaw06.InterpRuns", spec := "interpRuns", unfollowed := true, recurses := true, apart := false, narrowed := true }
def InterpRunsUptoSaid : Prop := interpRunsUptoRow.holds Tryz.pinned (OpenSpec.upto interpRunsSpec)

/-- 'strakelaw16.SpanOf', WHERE WHAT IT READS IS OF BULK AT MOST 1048576: true; the input reads as it did. -/
def spanOfUptoRow : OpenClaim := { program := "ytcmflfkpeodicaagreat", sum := "774e248af7c90bb34830c8839e32b97fc8a0d42514818fde5636254b817357eb", func := "strake/strakelaw16.SpanOf", spec := "spanOf", inPlace := ["math/bits.Add64", "math/bits.Sub64"], unfollowed := true, recurses := true, apart := false, narrowed := true }
def SpanOfUptoSaid : Prop := spanOfUptoRow.holds Tryz.pinned (OpenSpec.upto spanOfSpec)

/-- 'strakelaw16.SpanReturns', WHERE WHAT IT READS IS OF BULK AT MOST 1048576: true; the input reads as it did. -/
def spanReturnsUptoRow : OpenClaim := { program := "ytcmflfkpeodicaagreat", sum := "774e248af7c90bb34830c8839e32b97fc8a0d42514818fde5636254b817357eb", func := "strake/strakelaw16.SpanReturns", spec := "spanReturns", inPlace := ["math/bits.Add64", "math/bits.Sub64"], unfollowed := true, recurses := true, apart := false, narrowed := true }
def SpanReturnsUptoSaid : Prop := spanReturnsUptoRow.holds Tryz.pinned (OpenSpec.upto spanReturnsSpec)

/-- 'strakelaw08.RepairBuilds', WHERE WHAT IT READS IS OF BULK AT MOST 1048576: true; the input reads as it did. -/
def repairBuildsUptoRow : OpenClaim := { program := "ytcmflfkpeodicaagreat", sum := "774e248af7c90bb34830c8839e32b97fc8a0d42514818fde5636254b817357eb", func := "strake/strakelaw08.RepairBuilds", spec := "repairBuilds", inPlace := ["slices.overlaps[int]"], unfollowed := true, recurses := true, apart := false, narrowed := true }
def RepairBuildsUptoSaid : Prop := repairBuildsUptoRow.holds Tryz.pinned (OpenSpec.upto repairBuildsSpec)

/-- 'strakelaw08.RepairLowers', WHERE WHAT IT READS IS OF BULK AT MOST 1048576: true; the input reads as it did. -/
def repairLowersUptoRow : OpenClaim := { program := "ytcmflfkpeodicaagreat", sum := "774e248af7c90bb34830c8839e32b97fc8a0d42514818fde5636254b817357eb", func := "strake/strakelaw08.RepairLowers", spec := "repairLowers", inPlace := ["slices.overlaps[int]"], unfollowed := true, recurses := true, apart := false, narrowed := true }
def RepairLowersUptoSaid : Prop := repairLowersUptoRow.holds Tryz.pinned (OpenSpec.upto repairLowersSpec)

/-- 'strakelaw08.RepairRuns', WHERE WHAT IT READS IS OF BULK AT MOST 1048576: true; the input reads as it did. -/
def repairRunsUptoRow : OpenClaim := { program := "ytcmflfkpeodicaagreat", sum := "774e248af7c90bb34830c8839e32b97fc8a0d42514818fde5636254b817357eb", func := "strake/strakelaw08.RepairRuns", spec := "repairRuns", inPlace := ["slices.overlaps[int]"], unfollowed := true, recurses := true, apart := false, narrowed := true }
def RepairRunsUptoSaid : Prop := repairRunsUptoRow.holds Tryz.pinned (OpenSpec.upto repairRunsSpec)

/-- 'strakelaw08.RepairPlaces', WHERE WHAT IT READS IS OF BULK AT MOST 1048576: true; the input reads as it did. -/
def repairPlacesUptoRow : OpenClaim := { program := "ytcmflfkpeodicaagreat", sum := "774e248af7c90bb34830c8839e32b97fc8a0d42514818fde5636254b817357eb", func := "strake/strakelaw08.RepairPlaces", spec := "repairPlaces", inPlace := ["slices.overlaps[int]"], unfollowed := true, recurses := true, apart := false, narrowed := true }
def RepairPlacesUptoSaid : Prop := repairPlacesUptoRow.holds Tryz.pinned (OpenSpec.upto repairPlacesSpec)

end Rows
end Go.Proofs.YtcmflfkpeodicaaGreat
