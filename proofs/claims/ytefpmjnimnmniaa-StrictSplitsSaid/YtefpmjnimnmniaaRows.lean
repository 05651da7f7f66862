/-
  No cell of these rows narrows 'for every input' (looked for: loops, veiled, ifaces, maps, wideKeys, modest, calm, conditions, laid).
  DERIVED. THE GIVEN ROWS OF THIS SEAT. 20 by the template 'for every input the law returns true; each argument reads behind the call as it read before'; 0 by the template 'total and deterministic' (their statements: YtefpmjnimnmniaaTotals.lean).
  GIVEN WITH THE SEED: the statements are not yours to turn. If you find one false, say at which input.
  Laid BY PROGRAM, IN A SANDBOX (cutbox-rows.mjs): the forced cells as the released guide's own fill.sh prints them over the translation 37b946b104a35991… (all of the seat's roots in one cut). By AI agents, Wed Nov 11 2026. No macro, syntax, notation, axiom, sorry.
-/
import Derived.Test.YtefpmjnimnmniaaChecked
import GoSem.Claim
import GoSem.ClaimJoined
import GoSem.ClaimMapViews
import Derived.JoinedTies
import Derived.KernelRfl
namespace Go.Proofs.Ytefpmjnimnmniaa
/- THE CELL 'sum', in the pinned program and in every row, IS THE sha256 OF THE DUMP (.gsa) THAT YtefpmjnimnmniaaProg.lean LOADS. Nothing in Lean hashes anything: it is a label: what it is worth is what the hold of that sum in a sandbox is worth. -/
noncomputable def Try.pinned : Pinned := { name := "ytefpmjnimnmniaa", sum := "37b946b104a35991612c85fa9043e65e4113fbc9d873a38c23a67c54a82630d5", checked := Try.checked }
namespace Rows
def none {H : Type} : Left H := { results := [], args := [] }

/-- 'strakelaw01.IrArgs': WHATEVER THE INPUT: true; the input reads as it did. -/
def irArgsSpec : ChangeSpec := { name := "irArgs", fn := fun _ => fun
  | [d] => { results := [.lit (.bool true)], args := [d] }
  | _ => none }
def irArgsRow : OpenClaim := { program := "ytefpmjnimnmniaa", sum := "37b946b104a35991612c85fa9043e65e4113fbc9d873a38c23a67c54a82630d5", func := "strake/strakelaw01.IrArgs", spec := "irArgs", unfollowed := true, recurses := true, apart := false }
def IrArgsSaid : Prop := irArgsRow.holds Try.pinned (OpenSpec.ofChange irArgsSpec)

/-- ITS FALSE NEIGHBOUR: 'it returns false'. Refute it at one input. -/
def irArgsWrong : ChangeSpec := { name := "irArgs", fn := fun _ => fun
  | [d] => { results := [.lit (.bool false)], args := [d] }
  | _ => none }
def IrArgsWrongFalsely : Prop := irArgsRow.holds Try.pinned (OpenSpec.ofChange irArgsWrong)

/-- 'strakelaw03.GraphWays': WHATEVER THE INPUT: true; the input reads as it did. -/
def graphWaysSpec : ChangeSpec := { name := "graphWays", fn := fun _ => fun
  | [d] => { results := [.lit (.bool true)], args := [d] }
  | _ => none }
def graphWaysRow : OpenClaim := { program := "ytefpmjnimnmniaa", sum := "37b946b104a35991612c85fa9043e65e4113fbc9d873a38c23a67c54a82630d5", func := "strake/strakelaw03.GraphWays", spec := "graphWays", unfollowed := true, recurses := true, apart := false }
def GraphWaysSaid : Prop := graphWaysRow.holds Try.pinned (OpenSpec.ofChange graphWaysSpec)

/-- ITS FALSE NEIGHBOUR: 'it returns false'. Refute it at one input. -/
def graphWaysWrong : ChangeSpec := { name := "graphWays", fn := fun _ => fun
  | [d] => { results := [.lit (.bool false)], args := [d] }
  | _ => none }
def GraphWaysWrongFalsely : Prop := graphWaysRow.holds Try.pinned (OpenSpec.ofChange graphWaysWrong)

/-- 'strakelaw03.GraphOrders': WHATEVER THE INPUT: true; the input reads as it did. -/
def graphOrdersSpec : ChangeSpec := { name := "graphOrders", fn := fun _ => fun
  | [d] => { results := [.lit (.bool true)], args := [d] }
  | _ => none }
def graphOrdersRow : OpenClaim := { program := "ytefpmjnimnmniaa", sum := "37b946b104a35991612c85fa9043e65e4113fbc9d873a38c23a67c54a82630d5", func := "strake/strakelaw03.GraphOrders", spec := "graphOrders", unfollowed := true, recurses := true, apart := false }
def GraphOrdersSaid : Prop := graphOrdersRow.holds Try.pinned (OpenSpec.ofChange graphOrdersSpec)

/-- ITS FALSE NEIGHBOUR: 'it returns false'. Refute it at one input. -/
def graphOrdersWrong : ChangeSpec := { name := "graphOrders", fn := fun _ => fun
  | [d] => { results := [.lit (.bool false)], args := [d] }
  | _ => none }
def GraphOrdersWrongFalsely : Prop := graphOrdersRow.holds Try.pinned (OpenSpec.ofChange graphOrdersWrong)

/-- 'strakelaw04.DomTrees': WHATEVER THE INPUT: true; the input reads as it did. -/
def domTreesSpec : ChangeSpec := { name := "domTrees", fn := fun _ => fun
  | [d1, d2, d3] => { results := [.lit (.bool true)], args := [d1, d2, d3] }
  | _ => none }
def domTreesRow : OpenClaim := { program := "ytefpmjnimnmniaa", sum := "37b946b104a35991612c85fa9043e65e4113fbc9d873a38c23a67c54a82630d5", func := "strake/strakelaw04.DomTrees", spec := "domTrees", unfollowed := true, recurses := true, apart := false }
def DomTreesSaid : Prop := domTreesRow.holds Try.pinned (OpenSpec.ofChange domTreesSpec)

/-- ITS FALSE NEIGHBOUR: 'it returns false'. Refute it at one input. -/
def domTreesWrong : ChangeSpec := { name := "domTrees", fn := fun _ => fun
  | [d1, d2, d3] => { results := [.lit (.bool false)], args := [d1, d2, d3] }
  | _ => none }
def DomTreesWrongFalsely : Prop := domTreesRow.holds Try.pinned (OpenSpec.ofChange domTreesWrong)

/-- 'strakelaw04.DomWays': WHATEVER THE INPUT: true; the input reads as it did. -/
def domWaysSpec : ChangeSpec := { name := "domWays", fn := fun _ => fun
  | [d1, d2] => { results := [.lit (.bool true)], args := [d1, d2] }
  | _ => none }
def domWaysRow : OpenClaim := { program := "ytefpmjnimnmniaa", sum := "37b946b104a35991612c85fa9043e65e4113fbc9d873a38c23a67c54a82630d5", func := "strake/strakelaw04.DomWays", spec := "domWays", unfollowed := true, recurses := true, apart := false }
def DomWaysSaid : Prop := domWaysRow.holds Try.pinned (OpenSpec.ofChange domWaysSpec)

/-- ITS FALSE NEIGHBOUR: 'it returns false'. Refute it at one input. -/
def domWaysWrong : ChangeSpec := { name := "domWays", fn := fun _ => fun
  | [d1, d2] => { results := [.lit (.bool false)], args := [d1, d2] }
  | _ => none }
def DomWaysWrongFalsely : Prop := domWaysRow.holds Try.pinned (OpenSpec.ofChange domWaysWrong)

/-- 'strakelaw03.GraphSplits': WHATEVER THE INPUT: true; the input reads as it did. -/
def graphSplitsSpec : ChangeSpec := { name := "graphSplits", fn := fun _ => fun
  | [d1, d2, d3] => { results := [.lit (.bool true)], args := [d1, d2, d3] }
  | _ => none }
def graphSplitsRow : OpenClaim := { program := "ytefpmjnimnmniaa", sum := "37b946b104a35991612c85fa9043e65e4113fbc9d873a38c23a67c54a82630d5", func := "strake/strakelaw03.GraphSplits", spec := "graphSplits", unfollowed := true, recurses := true, apart := false }
def GraphSplitsSaid : Prop := graphSplitsRow.holds Try.pinned (OpenSpec.ofChange graphSplitsSpec)

/-- ITS FALSE NEIGHBOUR: 'it returns false'. Refute it at one input. -/
def graphSplitsWrong : ChangeSpec := { name := "graphSplits", fn := fun _ => fun
  | [d1, d2, d3] => { results := [.lit (.bool false)], args := [d1, d2, d3] }
  | _ => none }
def GraphSplitsWrongFalsely : Prop := graphSplitsRow.holds Try.pinned (OpenSpec.ofChange graphSplitsWrong)

/-- 'strakelaw03.GraphApart': WHATEVER THE INPUT: true; the input reads as it did. -/
def graphApartSpec : ChangeSpec := { name := "graphApart", fn := fun _ => fun
  | [d1, d2] => { results := [.lit (.bool true)], args := [d1, d2] }
  | _ => none }
def graphApartRow : OpenClaim := { program := "ytefpmjnimnmniaa", sum := "37b946b104a35991612c85fa9043e65e4113fbc9d873a38c23a67c54a82630d5", func := "strake/strakelaw03.GraphApart", spec := "graphApart", unfollowed := true, recurses := true, apart := false }
def GraphApartSaid : Prop := graphApartRow.holds Try.pinned (OpenSpec.ofChange graphApartSpec)

/-- ITS FALSE NEIGHBOUR: 'it returns false'. Refute it at one input. -/
def graphApartWrong : ChangeSpec := { name := "graphApart", fn := fun _ => fun
  | [d1, d2] => { results := [.lit (.bool false)], args := [d1, d2] }
  | _ => none }
def GraphApartWrongFalsely : Prop := graphApartRow.holds Try.pinned (OpenSpec.ofChange graphApartWrong)

/-- 'strakelaw03.GraphPrunes': WHATEVER THE INPUT: true; the input reads as it did. -/
def graphPrunesSpec : ChangeSpec := { name := "graphPrunes", fn := fun _ => fun
  | [d] => { results := [.lit (.bool true)], args := [d] }
  | _ => none }
def graphPrunesRow : OpenClaim := { program := "ytefpmjnimnmniaa", sum := "37b946b104a35991612c85fa9043e65e4113fbc9d873a38c23a67c54a82630d5", func := "strake/strakelaw03.GraphPrunes", spec := "graphPrunes", unfollowed := true, recurses := true, apart := false }
def GraphPrunesSaid : Prop := graphPrunesRow.holds Try.pinned (OpenSpec.ofChange graphPrunesSpec)

/-- ITS FALSE NEIGHBOUR: 'it returns false'. Refute it at one input. -/
def graphPrunesWrong : ChangeSpec := { name := "graphPrunes", fn := fun _ => fun
  | [d] => { results := [.lit (.bool false)], args := [d] }
  | _ => none }
def GraphPrunesWrongFalsely : Prop := graphPrunesRow.holds Try.pinned (OpenSpec.ofChange graphPrunesWrong)

/-- 'strakelaw03.GraphPruned': WHATEVER THE INPUT: true; the input reads as it did. -/
def graphPrunedSpec : ChangeSpec := { name := "graphPruned", fn := fun _ => fun
  | [d] => { results := [.lit (.bool true)], args := [d] }
  | _ => none }
def graphPrunedRow : OpenClaim := { program := "ytefpmjnimnmniaa", sum := "37b946b104a35991612c85fa9043e65e4113fbc9d873a38c23a67c54a82630d5", func := "strake/strakelaw03.GraphPruned", spec := "graphPruned", unfollowed := true, recurses := true, apart := false }
def GraphPrunedSaid : Prop := graphPrunedRow.holds Try.pinned (OpenSpec.ofChange graphPrunedSpec)

/-- ITS FALSE NEIGHBOUR: 'it returns false'. Refute it at one input. -/
def graphPrunedWrong : ChangeSpec := { name := "graphPruned", fn := fun _ => fun
  | [d] => { results := [.lit (.bool false)], args := [d] }
  | _ => none }
def GraphPrunedWrongFalsely : Prop := graphPrunedRow.holds Try.pinned (OpenSpec.ofChange graphPrunedWrong)

/-- 'strakelaw04.DomMeets': WHATEVER THE INPUT: true; the input reads as it did. -/
def domMeetsSpec : ChangeSpec := { name := "domMeets", fn := fun _ => fun
  | [d1, d2] => { results := [.lit (.bool true)], args := [d1, d2] }
  | _ => none }
def domMeetsRow : OpenClaim := { program := "ytefpmjnimnmniaa", sum := "37b946b104a35991612c85fa9043e65e4113fbc9d873a38c23a67c54a82630d5", func := "strake/strakelaw04.DomMeets", spec := "domMeets", unfollowed := true, recurses := true, apart := false }
def DomMeetsSaid : Prop := domMeetsRow.holds Try.pinned (OpenSpec.ofChange domMeetsSpec)

/-- ITS FALSE NEIGHBOUR: 'it returns false'. Refute it at one input. -/
def domMeetsWrong : ChangeSpec := { name := "domMeets", fn := fun _ => fun
  | [d1, d2] => { results := [.lit (.bool false)], args := [d1, d2] }
  | _ => none }
def DomMeetsWrongFalsely : Prop := domMeetsRow.holds Try.pinned (OpenSpec.ofChange domMeetsWrong)

/-- 'strakelaw04.DomMet': WHATEVER THE INPUT: true; the input reads as it did. -/
def domMetSpec : ChangeSpec := { name := "domMet", fn := fun _ => fun
  | [d1, d2, d3, d4] => { results := [.lit (.bool true)], args := [d1, d2, d3, d4] }
  | _ => none }
def domMetRow : OpenClaim := { program := "ytefpmjnimnmniaa", sum := "37b946b104a35991612c85fa9043e65e4113fbc9d873a38c23a67c54a82630d5", func := "strake/strakelaw04.DomMet", spec := "domMet", unfollowed := true, recurses := true, apart := false }
def DomMetSaid : Prop := domMetRow.holds Try.pinned (OpenSpec.ofChange domMetSpec)

/-- ITS FALSE NEIGHBOUR: 'it returns false'. Refute it at one input. -/
def domMetWrong : ChangeSpec := { name := "domMet", fn := fun _ => fun
  | [d1, d2, d3, d4] => { results := [.lit (.bool false)], args := [d1, d2, d3, d4] }
  | _ => none }
def DomMetWrongFalsely : Prop := domMetRow.holds Try.pinned (OpenSpec.ofChange domMetWrong)

/-- 'strakelaw04.DomFronts': WHATEVER THE INPUT: true; the input reads as it did. -/
def domFrontsSpec : ChangeSpec := { name := "domFronts", fn := fun _ => fun
  | [d] => { results := [.lit (.bool true)], args := [d] }
  | _ => none }
def domFrontsRow : OpenClaim := { program := "ytefpmjnimnmniaa", sum := "37b946b104a35991612c85fa9043e65e4113fbc9d873a38c23a67c54a82630d5", func := "strake/strakelaw04.DomFronts", spec := "domFronts", unfollowed := true, recurses := true, apart := false }
def DomFrontsSaid : Prop := domFrontsRow.holds Try.pinned (OpenSpec.ofChange domFrontsSpec)

/-- ITS FALSE NEIGHBOUR: 'it returns false'. Refute it at one input. -/
def domFrontsWrong : ChangeSpec := { name := "domFronts", fn := fun _ => fun
  | [d] => { results := [.lit (.bool false)], args := [d] }
  | _ => none }
def DomFrontsWrongFalsely : Prop := domFrontsRow.holds Try.pinned (OpenSpec.ofChange domFrontsWrong)

/-- 'strakelaw04.DomChains': WHATEVER THE INPUT: true; the input reads as it did. -/
def domChainsSpec : ChangeSpec := { name := "domChains", fn := fun _ => fun
  | [d1, d2, d3] => { results := [.lit (.bool true)], args := [d1, d2, d3] }
  | _ => none }
def domChainsRow : OpenClaim := { program := "ytefpmjnimnmniaa", sum := "37b946b104a35991612c85fa9043e65e4113fbc9d873a38c23a67c54a82630d5", func := "strake/strakelaw04.DomChains", spec := "domChains", unfollowed := true, recurses := true, apart := false }
def DomChainsSaid : Prop := domChainsRow.holds Try.pinned (OpenSpec.ofChange domChainsSpec)

/-- ITS FALSE NEIGHBOUR: 'it returns false'. Refute it at one input. -/
def domChainsWrong : ChangeSpec := { name := "domChains", fn := fun _ => fun
  | [d1, d2, d3] => { results := [.lit (.bool false)], args := [d1, d2, d3] }
  | _ => none }
def DomChainsWrongFalsely : Prop := domChainsRow.holds Try.pinned (OpenSpec.ofChange domChainsWrong)

/-- 'strakelaw01.IrTells': WHATEVER THE INPUT: true; the input reads as it did. -/
def irTellsSpec : ChangeSpec := { name := "irTells", fn := fun _ => fun
  | [d1, d2] => { results := [.lit (.bool true)], args := [d1, d2] }
  | _ => none }
def irTellsRow : OpenClaim := { program := "ytefpmjnimnmniaa", sum := "37b946b104a35991612c85fa9043e65e4113fbc9d873a38c23a67c54a82630d5", func := "strake/strakelaw01.IrTells", spec := "irTells", unfollowed := true, recurses := true, apart := false }
def IrTellsSaid : Prop := irTellsRow.holds Try.pinned (OpenSpec.ofChange irTellsSpec)

/-- ITS FALSE NEIGHBOUR: 'it returns false'. Refute it at one input. -/
def irTellsWrong : ChangeSpec := { name := "irTells", fn := fun _ => fun
  | [d1, d2] => { results := [.lit (.bool false)], args := [d1, d2] }
  | _ => none }
def IrTellsWrongFalsely : Prop := irTellsRow.holds Try.pinned (OpenSpec.ofChange irTellsWrong)

/-- 'strakelaw01.IrUsed': WHATEVER THE INPUT: true; the input reads as it did. -/
def irUsedSpec : ChangeSpec := { name := "irUsed", fn := fun _ => fun
  | [d] => { results := [.lit (.bool true)], args := [d] }
  | _ => none }
def irUsedRow : OpenClaim := { program := "ytefpmjnimnmniaa", sum := "37b946b104a35991612c85fa9043e65e4113fbc9d873a38c23a67c54a82630d5", func := "strake/strakelaw01.IrUsed", spec := "irUsed", unfollowed := true, recurses := true, apart := false }
def IrUsedSaid : Prop := irUsedRow.holds Try.pinned (OpenSpec.ofChange irUsedSpec)

/-- ITS FALSE NEIGHBOUR: 'it returns false'. Refute it at one input. -/
def irUsedWrong : ChangeSpec := { name := "irUsed", fn := fun _ => fun
  | [d] => { results := [.lit (.bool false)], args := [d] }
  | _ => none }
def IrUsedWrongFalsely : Prop := irUsedRow.holds Try.pinned (OpenSpec.ofChange irUsedWrong)

/-- 'strakelaw01.IrMore': WHATEVER THE INPUT: true; the input reads as it did. -/
def irMoreSpec : ChangeSpec := { name := "irMore", fn := fun _ => fun
  | [d1, d2] => { results := [.lit (.bool true)], args := [d1, d2] }
  | _ => none }
def irMoreRow : OpenClaim := { program := "ytefpmjnimnmniaa", sum := "37b946b104a35991612c85fa9043e65e4113fbc9d873a38c23a67c54a82630d5", func := "strake/strakelaw01.IrMore", spec := "irMore", unfollowed := true, recurses := true, apart := false }
def IrMoreSaid : Prop := irMoreRow.holds Try.pinned (OpenSpec.ofChange irMoreSpec)

/-- ITS FALSE NEIGHBOUR: 'it returns false'. Refute it at one input. -/
def irMoreWrong : ChangeSpec := { name := "irMore", fn := fun _ => fun
  | [d1, d2] => { results := [.lit (.bool false)], args := [d1, d2] }
  | _ => none }
def IrMoreWrongFalsely : Prop := irMoreRow.holds Try.pinned (OpenSpec.ofChange irMoreWrong)

/-- 'strakelaw05.StrictChecks': WHATEVER THE INPUT: true; the input reads as it did. -/
def strictChecksSpec : ChangeSpec := { name := "strictChecks", fn := fun _ => fun
  | [d] => { results := [.lit (.bool true)], args := [d] }
  | _ => none }
def strictChecksRow : OpenClaim := { program := "ytefpmjnimnmniaa", sum := "37b946b104a35991612c85fa9043e65e4113fbc9d873a38c23a67c54a82630d5", func := "strake/strakelaw05.StrictChecks", spec := "strictChecks", unfollowed := true, recurses := true, apart := false }
def StrictChecksSaid : Prop := strictChecksRow.holds Try.pinned (OpenSpec.ofChange strictChecksSpec)

/-- ITS FALSE NEIGHBOUR: 'it returns false'. Refute it at one input. -/
def strictChecksWrong : ChangeSpec := { name := "strictChecks", fn := fun _ => fun
  | [d] => { results := [.lit (.bool false)], args := [d] }
  | _ => none }
def StrictChecksWrongFalsely : Prop := strictChecksRow.holds Try.pinned (OpenSpec.ofChange strictChecksWrong)

/-- 'strakelaw05.StrictDefs': WHATEVER THE INPUT: true; the input reads as it did. -/
def strictDefsSpec : ChangeSpec := { name := "strictDefs", fn := fun _ => fun
  | [d1, d2] => { results := [.lit (.bool true)], args := [d1, d2] }
  | _ => none }
def strictDefsRow : OpenClaim := { program := "ytefpmjnimnmniaa", sum := "37b946b104a35991612c85fa9043e65e4113fbc9d873a38c23a67c54a82630d5", func := "strake/strakelaw05.StrictDefs", spec := "strictDefs", unfollowed := true, recurses := true, apart := false }
def StrictDefsSaid : Prop := strictDefsRow.holds Try.pinned (OpenSpec.ofChange strictDefsSpec)

/-- ITS FALSE NEIGHBOUR: 'it returns false'. Refute it at one input. -/
def strictDefsWrong : ChangeSpec := { name := "strictDefs", fn := fun _ => fun
  | [d1, d2] => { results := [.lit (.bool false)], args := [d1, d2] }
  | _ => none }
def StrictDefsWrongFalsely : Prop := strictDefsRow.holds Try.pinned (OpenSpec.ofChange strictDefsWrong)

/-- 'strakelaw05.StrictSplits': WHATEVER THE INPUT: true; the input reads as it did. -/
def strictSplitsSpec : ChangeSpec := { name := "strictSplits", fn := fun _ => fun
  | [d1, d2, d3] => { results := [.lit (.bool true)], args := [d1, d2, d3] }
  | _ => none }
def strictSplitsRow : OpenClaim := { program := "ytefpmjnimnmniaa", sum := "37b946b104a35991612c85fa9043e65e4113fbc9d873a38c23a67c54a82630d5", func := "strake/strakelaw05.StrictSplits", spec := "strictSplits", unfollowed := true, recurses := true, apart := false }
def StrictSplitsSaid : Prop := strictSplitsRow.holds Try.pinned (OpenSpec.ofChange strictSplitsSpec)

/-- ITS FALSE NEIGHBOUR: 'it returns false'. Refute it at one input. -/
def strictSplitsWrong : ChangeSpec := { name := "strictSplits", fn := fun _ => fun
  | [d1, d2, d3] => { results := [.lit (.bool false)], args := [d1, d2, d3] }
  | _ => none }
def StrictSplitsWrongFalsely : Prop := strictSplitsRow.holds Try.pinned (OpenSpec.ofChange strictSplitsWrong)

/-- 'strakelaw05.StrictPrunes': WHATEVER THE INPUT: true; the input reads as it did. -/
def strictPrunesSpec : ChangeSpec := { name := "strictPrunes", fn := fun _ => fun
  | [d] => { results := [.lit (.bool true)], args := [d] }
  | _ => none }
def strictPrunesRow : OpenClaim := { program := "ytefpmjnimnmniaa", sum := "37b946b104a35991612c85fa9043e65e4113fbc9d873a38c23a67c54a82630d5", func := "strake/strakelaw05.StrictPrunes", spec := "strictPrunes", unfollowed := true, recurses := true, apart := false }
def StrictPrunesSaid : Prop := strictPrunesRow.holds Try.pinned (OpenSpec.ofChange strictPrunesSpec)

/-- ITS FALSE NEIGHBOUR: 'it returns false'. Refute it at one input. -/
def strictPrunesWrong : ChangeSpec := { name := "strictPrunes", fn := fun _ => fun
  | [d] => { results := [.lit (.bool false)], args := [d] }
  | _ => none }
def StrictPrunesWrongFalsely : Prop := strictPrunesRow.holds Try.pinned (OpenSpec.ofChange strictPrunesWrong)

/- THE SECOND FORM. 'bulk': how many values and letters a reading holds, each counted each time it is reached (what is shared counts as often as it is met; a slice's spare places count too). A statement '..UptoSaid' is the law's where the arguments, and the package variables that the reading takes, are together of bulk at most 1048576: NARROWER than '..Said'. Prove '..Said' where nothing that the law and all that it calls make is longer than what came in: it says more and counts as full. Else prove '..UptoSaid'. A law counts once. -/
mutual
def uptoBulk {H : Type} : DataW H → Nat
  | .lit (.string bytes) => bytes.length + 1
  | .lit _ => 1
  | .nil => 1
  | .ptr d => uptoBulk d + 1
  | .slice elems spare => uptoBulkAll elems + uptoBulkAll spare + 1
  | .agg parts => uptoBulkAll parts + 1
  | .iface _ d => uptoBulk d + 1
  | .map entries => uptoBulkEntries entries + 1
  | .held _ => 1
def uptoBulkAll {H : Type} : List (DataW H) → Nat
  | [] => 0
  | d :: r => uptoBulk d + uptoBulkAll r
def uptoBulkEntries {H : Type} : List (Lit × DataW H) → Nat
  | [] => 0
  | x :: r => uptoBulkEntry x + uptoBulkEntries r
def uptoBulkEntry {H : Type} : Lit × DataW H → Nat
  | (.string bytes, d) => bytes.length + uptoBulk d + 1
  | (_, d) => uptoBulk d + 1
 end
def uptoSmall : (H : Type) → List (DataW H) → Bool := fun _ ds => decide (uptoBulkAll ds ≤ 1048576)
def OpenSpec.upto (s : _root_.Go.ChangeSpec) : _root_.Go.OpenSpec := { _root_.Go.OpenSpec.ofChange s with cond := some uptoSmall }

/-- 'strakelaw01.IrArgs', WHERE WHAT IT READS IS OF BULK AT MOST 1048576: true; the input reads as it did. -/
def irArgsUptoRow : OpenClaim := { program := "ytefpmjnimnmniaa", sum := "37b946b104a35991612c85fa9043e65e4113fbc9d873a38c23a67c54a82630d5", func := "strake/strakelaw01.IrArgs", spec := "irArgs", unfollowed := true, recurses := true, apart := false, narrowed := true }
def IrArgsUptoSaid : Prop := irArgsUptoRow.holds Try.pinned (OpenSpec.upto irArgsSpec)

/-- 'strakelaw03.GraphWays', WHERE WHAT IT READS IS OF BULK AT MOST 1048576: true; the input reads as it did. -/
def graphWaysUptoRow : OpenClaim := { program := "ytefpmjnimnmniaa", sum := "37b946b104a35991612c85fa9043e65e4113fbc9d873a38c23a67c54a82630d5", func := "strake/strakelaw03.GraphWays", spec := "graphWays", unfollowed := true, recurses := true, apart := false, narrowed := true }
def GraphWaysUptoSaid : Prop := graphWaysUptoRow.holds Try.pinned (OpenSpec.upto graphWaysSpec)

/-- 'strakelaw03.GraphOrders', WHERE WHAT IT READS IS OF BULK AT MOST 1048576: true; the input reads as it did. -/
def graphOrdersUptoRow : OpenClaim := { program := "ytefpmjnimnmniaa", sum := "37b946b104a35991612c85fa9043e65e4113fbc9d873a38c23a67c54a82630d5", func := "strake/strakelaw03.GraphOrders", spec := "graphOrders", unfollowed := true, recurses := true, apart := false, narrowed := true }
def GraphOrdersUptoSaid : Prop := graphOrdersUptoRow.holds Try.pinned (OpenSpec.upto graphOrdersSpec)

/-- 'strakelaw04.DomTrees', WHERE WHAT IT READS IS OF BULK AT MOST 1048576: true; the input reads as it did. -/
def domTreesUptoRow : OpenClaim := { program := "ytefpmjnimnmniaa", sum := "37b946b104a35991612c85fa9043e65e4113fbc9d873a38c23a67c54a82630d5", func := "strake/strakelaw04.DomTrees", spec := "domTrees", unfollowed := true, recurses := true, apart := false, narrowed := true }
def DomTreesUptoSaid : Prop := domTreesUptoRow.holds Try.pinned (OpenSpec.upto domTreesSpec)

/-- 'strakelaw04.DomWays', WHERE WHAT IT READS IS OF BULK AT MOST 1048576: true; the input reads as it did. -/
def domWaysUptoRow : OpenClaim := { program := "ytefpmjnimnmniaa", sum := "37b946b104a35991612c85fa9043e65e4113fbc9d873a38c23a67c54a82630d5", func := "strake/strakelaw04.DomWays", spec := "domWays", unfollowed := true, recurses := true, apart := false, narrowed := true }
def DomWaysUptoSaid : Prop := domWaysUptoRow.holds Try.pinned (OpenSpec.upto domWaysSpec)

/-- 'strakelaw03.GraphSplits', WHERE WHAT IT READS IS OF BULK AT MOST 1048576: true; the input reads as it did. -/
def graphSplitsUptoRow : OpenClaim := { program := "ytefpmjnimnmniaa", sum := "37b946b104a35991612c85fa9043e65e4113fbc9d873a38c23a67c54a82630d5", func := "strake/strakelaw03.GraphSplits", spec := "graphSplits", unfollowed := true, recurses := true, apart := false, narrowed := true }
def GraphSplitsUptoSaid : Prop := graphSplitsUptoRow.holds Try.pinned (OpenSpec.upto graphSplitsSpec)

/-- 'strakelaw03.GraphApart', WHERE WHAT IT READS IS OF BULK AT MOST 1048576: true; the input reads as it did. -/
def graphApartUptoRow : OpenClaim := { program := "ytefpmjnimnmniaa", sum := "37b946b104a35991612c85fa9043e65e4113fbc9d873a38c23a67c54a82630d5", func := "strake/strakelaw03.GraphApart", spec := "graphApart", unfollowed := true, recurses := true, apart := false, narrowed := true }
def GraphApartUptoSaid : Prop := graphApartUptoRow.holds Try.pinned (OpenSpec.upto graphApartSpec)

/-- 'strakelaw03.GraphPrunes', WHERE WHAT IT READS IS OF BULK AT MOST 1048576: true; the input reads as it did. -/
def graphPrunesUptoRow : OpenClaim := { program := "ytefpmjnimnmniaa", sum := "37b946b104a35991612c85fa9043e65e4113fbc9d873a38c23a67c54a82630d5", func := "strake/strakelaw03.GraphPrunes", spec := "graphPrunes", unfollowed := true, recurses := true, apart := false, narrowed := true }
def GraphPrunesUptoSaid : Prop := graphPrunesUptoRow.holds Try.pinned (OpenSpec.upto graphPrunesSpec)

/-- 'strakelaw03.GraphPruned', WHERE WHAT IT READS IS OF BULK AT MOST 1048576: true; the input reads as it did. -/
def graphPrunedUptoRow : OpenClaim := { program := "ytefpmjnimnmniaa", sum := "37b946b104a35991612c85fa9043e65e4113fbc9d873a38c23a67c54a82630d5", func := "strake/strakelaw03.GraphPruned", spec := "graphPruned", unfollowed := true, recurses := true, apart := false, narrowed := true }
def GraphPrunedUptoSaid : Prop := graphPrunedUptoRow.holds Try.pinned (OpenSpec.upto graphPrunedSpec)

/-- 'strakelaw04.DomMeets', WHERE WHAT IT READS IS OF BULK AT MOST 1048576: true; the input reads as it did. -/
def domMeetsUptoRow : OpenClaim := { program := "ytefpmjnimnmniaa", sum := "37b946b104a35991612c85fa9043e65e4113fbc9d873a38c23a67c54a82630d5", func := "strake/strakelaw04.DomMeets", spec := "domMeets", unfollowed := true, recurses := true, apart := false, narrowed := true }
def DomMeetsUptoSaid : Prop := domMeetsUptoRow.holds Try.pinned (OpenSpec.upto domMeetsSpec)

/-- 'strakelaw04.DomMet', WHERE WHAT IT READS IS OF BULK AT MOST 1048576: true; the input reads as it did. -/
def domMetUptoRow : OpenClaim := { program := "ytefpmjnimnmniaa", sum := "37b946b104a35991612c85fa9043e65e4113fbc9d873a38c23a67c54a82630d5", func := "strake/strakelaw04.DomMet", spec := "domMet", unfollowed := true, recurses := true, apart := false, narrowed := true }
def DomMetUptoSaid : Prop := domMetUptoRow.holds Try.pinned (OpenSpec.upto domMetSpec)

/-- 'strakelaw04.DomFronts', WHERE WHAT IT READS IS OF BULK AT MOST 1048576: true; the input reads as it did. -/
def domFrontsUptoRow : OpenClaim := { program := "ytefpmjnimnmniaa", sum := "37b946b104a35991612c85fa9043e65e4113fbc9d873a38c23a67c54a82630d5", func := "strake/strakelaw04.DomFronts", spec := "domFronts", unfollowed := true, recurses := true, apart := false, narrowed := true }
def DomFrontsUptoSaid : Prop := domFrontsUptoRow.holds Try.pinned (OpenSpec.upto domFrontsSpec)

/-- 'strakelaw04.DomChains', WHERE WHAT IT READS IS OF BULK AT MOST 1048576: true; the input reads as it did. -/
def domChainsUptoRow : OpenClaim := { program := "ytefpmjnimnmniaa", sum := "37b946b104a35991612c85fa9043e65e4113fbc9d873a38c23a67c54a82630d5", func := "strake/strakelaw04.DomChains", spec := "domChains", unfollowed := true, recurses := true, apart := false, narrowed := true }
def DomChainsUptoSaid : Prop := domChainsUptoRow.holds Try.pinned (OpenSpec.upto domChainsSpec)

/-- 'strakelaw01.IrTells', WHERE WHAT IT READS IS OF BULK AT MOST 1048576: true; the input reads as it did. -/
def irTellsUptoRow : OpenClaim := { program := "ytefpmjnimnmniaa", sum := "37b946b104a35991612c85fa9043e65e4113fbc9d873a38c23a67c54a82630d5", func := "strake/strakelaw01.IrTells", spec := "irTells", unfollowed := true, recurses := true, apart := false, narrowed := true }
def IrTellsUptoSaid : Prop := irTellsUptoRow.holds Try.pinned (OpenSpec.upto irTellsSpec)

/-- 'strakelaw01.IrUsed', WHERE WHAT IT READS IS OF BULK AT MOST 1048576: true; the input reads as it did. -/
def irUsedUptoRow : OpenClaim := { program := "ytefpmjnimnmniaa", sum := "37b946b104a35991612c85fa9043e65e4113fbc9d873a38c23a67c54a82630d5", func := "strake/strakelaw01.IrUsed", spec := "irUsed", unfollowed := true, recurses := true, apart := false, narrowed := true }
def IrUsedUptoSaid : Prop := irUsedUptoRow.holds Try.pinned (OpenSpec.upto irUsedSpec)

/-- 'strakelaw01.IrMore', WHERE WHAT IT READS IS OF BULK AT MOST 1048576: true; the input reads as it did. -/
def irMoreUptoRow : OpenClaim := { program := "ytefpmjnimnmniaa", sum := "37b946b104a35991612c85fa9043e65e4113fbc9d873a38c23a67c54a82630d5", func := "strake/strakelaw01.IrMore", spec := "irMore", unfollowed := true, recurses := true, apart := false, narrowed := true }
def IrMoreUptoSaid : Prop := irMoreUptoRow.holds Try.pinned (OpenSpec.upto irMoreSpec)

/-- 'strakelaw05.StrictChecks', WHERE WHAT IT READS IS OF BULK AT MOST 1048576: true; the input reads as it did. -/
def strictChecksUptoRow : OpenClaim := { program := "ytefpmjnimnmniaa", sum := "37b946b104a35991612c85fa9043e65e4113fbc9d873a38c23a67c54a82630d5", func := "strake/strakelaw05.StrictChecks", spec := "strictChecks", unfollowed := true, recurses := true, apart := false, narrowed := true }
def StrictChecksUptoSaid : Prop := strictChecksUptoRow.holds Try.pinned (OpenSpec.upto strictChecksSpec)

/-- 'strakelaw05.StrictDefs', WHERE WHAT IT READS IS OF BULK AT MOST 1048576: true; the input reads as it did. -/
def strictDefsUptoRow : OpenClaim := { program := "ytefpmjnimnmniaa", sum := "37b946b104a35991612c85fa9043e65e4113fbc9d873a38c23a67c54a82630d5", func := "strake/strakelaw05.StrictDefs", spec := "strictDefs", unfollowed := true, recurses := true, apart := false, narrowed := true }
def StrictDefsUptoSaid : Prop := strictDefsUptoRow.holds Try.pinned (OpenSpec.upto strictDefsSpec)

/-- 'strakelaw05.StrictSplits', WHERE WHAT IT READS IS OF BULK AT MOST 1048576: true; the input reads as it did. -/
def strictSplitsUptoRow : OpenClaim := { program := "ytefpmjnimnmniaa", sum := "37b946b104a35991612c85fa9043e65e4113fbc9d873a38c23a67c54a82630d5", func := "strake/strakelaw05.StrictSplits", spec := "strictSplits", unfollowed := true, recurses := true, apart := false, narrowed := true }
def StrictSplitsUptoSaid : Prop := strictSplitsUptoRow.holds Try.pinned (OpenSpec.upto strictSplitsSpec)

/-- 'strakelaw05.StrictPrunes', WHERE WHAT IT READS IS OF BULK AT MOST 1048576: true; the input reads as it did. -/
def strictPrunesUptoRow : OpenClaim := { program := "ytefpmjnimnmniaa", sum := "37b946b104a35991612c85fa9043e65e4113fbc9d873a38c23a67c54a82630d5", func := "strake/strakelaw05.StrictPrunes", spec := "strictPrunes", unfollowed := true, recurses := true, apart := false, narrowed := true }
def StrictPrunesUptoSaid : Prop := strictPrunesUptoRow.holds Try.pinned (OpenSpec.upto strictPrunesSpec)

end Rows
end Go.Proofs.Ytefpmjnimnmniaa
