/-
  No cell of these rows narrows 'for every input' (looked for: loops, veiled, ifaces, maps, wideKeys, modest, calm, conditions, laid).
  DERIVED. THE GIVEN ROWS OF THIS SEAT. 6 by the template 'for every input the law returns true; each argument reads behind the call as it read before'; 0 by the template 'total and deterministic' (their statements: YtppnmdplojemcaaTotals.lean).
  GIVEN WITH THE SEED: the statements are not yours to turn. If you find one false, say at which input.
  Laid BY PROGRAM, IN A SANDBOX (cutbox-rows.mjs): the forced cells as the released guide's own fill.sh prints them over the translation ff424758dcbb2280… (all of the seat's roots in one cut). By AI agents, Wed Nov 11 2026. No macro, syntax, notation, axiom, sorry.
-/
import Derived.Test.YtppnmdplojemcaaChecked
import GoSem.Claim
import GoSem.ClaimJoined
import GoSem.ClaimMapViews
import Derived.JoinedTies
import Derived.KernelRfl
namespace Go.Proofs.Ytppnmdplojemcaa
/- THE CELL 'sum', in the pinned program and in every row, IS THE sha256 OF THE DUMP (.gsa) THAT YtppnmdplojemcaaProg.lean LOADS. Nothing in Lean hashes anything: it is a label: what it is worth is what the hold of that sum in a sandbox is worth. -/
noncomputable def Try.pinned : Pinned := { name := "ytppnmdplojemcaa", sum := "ff424758dcbb2280f103102fe4e3d3fe38fd667b5571da59a09ddbcdc50a8467", checked := Try.checked }
namespace Rows
def none {H : Type} : Left H := { results := [], args := [] }

/-- 'strakelaw16.SpanSums': WHATEVER THE INPUT: true; the input reads as it did. -/
def spanSumsSpec : ChangeSpec := { name := "spanSums", fn := fun _ => fun
  | [d1, d2] => { results := [.lit (.bool true)], args := [d1, d2] }
  | _ => none }
def spanSumsRow : OpenClaim := { program := "ytppnmdplojemcaa", sum := "ff424758dcbb2280f103102fe4e3d3fe38fd667b5571da59a09ddbcdc50a8467", func := "strake/strakelaw16.SpanSums", spec := "spanSums", inPlace := ["math/bits.Add64", "math/bits.Sub64"], unfollowed := true, recurses := true, apart := false }
def SpanSumsSaid : Prop := spanSumsRow.holds Try.pinned (OpenSpec.ofChange spanSumsSpec)

/-- ITS FALSE NEIGHBOUR: 'it returns false'. Refute it at one input. -/
def spanSumsWrong : ChangeSpec := { name := "spanSums", fn := fun _ => fun
  | [d1, d2] => { results := [.lit (.bool false)], args := [d1, d2] }
  | _ => none }
def SpanSumsWrongFalsely : Prop := spanSumsRow.holds Try.pinned (OpenSpec.ofChange spanSumsWrong)

/-- 'strakelaw16.SpanLeast': WHATEVER THE INPUT: true; the input reads as it did. -/
def spanLeastSpec : ChangeSpec := { name := "spanLeast", fn := fun _ => fun
  | [d1, d2] => { results := [.lit (.bool true)], args := [d1, d2] }
  | _ => none }
def spanLeastRow : OpenClaim := { program := "ytppnmdplojemcaa", sum := "ff424758dcbb2280f103102fe4e3d3fe38fd667b5571da59a09ddbcdc50a8467", func := "strake/strakelaw16.SpanLeast", spec := "spanLeast", inPlace := ["math/bits.Add64", "math/bits.Sub64"], unfollowed := true, recurses := true, apart := false }
def SpanLeastSaid : Prop := spanLeastRow.holds Try.pinned (OpenSpec.ofChange spanLeastSpec)

/-- ITS FALSE NEIGHBOUR: 'it returns false'. Refute it at one input. -/
def spanLeastWrong : ChangeSpec := { name := "spanLeast", fn := fun _ => fun
  | [d1, d2] => { results := [.lit (.bool false)], args := [d1, d2] }
  | _ => none }
def SpanLeastWrongFalsely : Prop := spanLeastRow.holds Try.pinned (OpenSpec.ofChange spanLeastWrong)

/-- 'strakelaw16.SpanJoins': WHATEVER THE INPUT: true; the input reads as it did. -/
def spanJoinsSpec : ChangeSpec := { name := "spanJoins", fn := fun _ => fun
  | [d] => { results := [.lit (.bool true)], args := [d] }
  | _ => none }
def spanJoinsRow : OpenClaim := { program := "ytppnmdplojemcaa", sum := "ff424758dcbb2280f103102fe4e3d3fe38fd667b5571da59a09ddbcdc50a8467", func := "strake/strakelaw16.SpanJoins", spec := "spanJoins", inPlace := ["math/bits.Add64"], unfollowed := true, recurses := true, apart := false }
def SpanJoinsSaid : Prop := spanJoinsRow.holds Try.pinned (OpenSpec.ofChange spanJoinsSpec)

/-- ITS FALSE NEIGHBOUR: 'it returns false'. Refute it at one input. -/
def spanJoinsWrong : ChangeSpec := { name := "spanJoins", fn := fun _ => fun
  | [d] => { results := [.lit (.bool false)], args := [d] }
  | _ => none }
def SpanJoinsWrongFalsely : Prop := spanJoinsRow.holds Try.pinned (OpenSpec.ofChange spanJoinsWrong)

/-- 'strakelaw16.SpanProducts': WHATEVER THE INPUT: true; the input reads as it did. -/
def spanProductsSpec : ChangeSpec := { name := "spanProducts", fn := fun _ => fun
  | [d1, d2] => { results := [.lit (.bool true)], args := [d1, d2] }
  | _ => none }
def spanProductsRow : OpenClaim := { program := "ytppnmdplojemcaa", sum := "ff424758dcbb2280f103102fe4e3d3fe38fd667b5571da59a09ddbcdc50a8467", func := "strake/strakelaw16.SpanProducts", spec := "spanProducts", inPlace := ["math/bits.Add64"], unfollowed := true, recurses := true, apart := false }
def SpanProductsSaid : Prop := spanProductsRow.holds Try.pinned (OpenSpec.ofChange spanProductsSpec)

/-- ITS FALSE NEIGHBOUR: 'it returns false'. Refute it at one input. -/
def spanProductsWrong : ChangeSpec := { name := "spanProducts", fn := fun _ => fun
  | [d1, d2] => { results := [.lit (.bool false)], args := [d1, d2] }
  | _ => none }
def SpanProductsWrongFalsely : Prop := spanProductsRow.holds Try.pinned (OpenSpec.ofChange spanProductsWrong)

/-- 'strakelaw16.SpanHolds': WHATEVER THE INPUT: true; the input reads as it did. -/
def spanHoldsSpec : ChangeSpec := { name := "spanHolds", fn := fun _ => fun
  | [d1, d2, d3, d4] => { results := [.lit (.bool true)], args := [d1, d2, d3, d4] }
  | _ => none }
def spanHoldsRow : OpenClaim := { program := "ytppnmdplojemcaa", sum := "ff424758dcbb2280f103102fe4e3d3fe38fd667b5571da59a09ddbcdc50a8467", func := "strake/strakelaw16.SpanHolds", spec := "spanHolds", inPlace := ["math/bits.Add64", "math/bits.Sub64"], unfollowed := true, recurses := true, apart := false }
def SpanHoldsSaid : Prop := spanHoldsRow.holds Try.pinned (OpenSpec.ofChange spanHoldsSpec)

/-- ITS FALSE NEIGHBOUR: 'it returns false'. Refute it at one input. -/
def spanHoldsWrong : ChangeSpec := { name := "spanHolds", fn := fun _ => fun
  | [d1, d2, d3, d4] => { results := [.lit (.bool false)], args := [d1, d2, d3, d4] }
  | _ => none }
def SpanHoldsWrongFalsely : Prop := spanHoldsRow.holds Try.pinned (OpenSpec.ofChange spanHoldsWrong)

/-- 'strakelaw16.SpanGrows': WHATEVER THE INPUT: true; the input reads as it did. -/
def spanGrowsSpec : ChangeSpec := { name := "spanGrows", fn := fun _ => fun
  | [d1, d2, d3, d4] => { results := [.lit (.bool true)], args := [d1, d2, d3, d4] }
  | _ => none }
def spanGrowsRow : OpenClaim := { program := "ytppnmdplojemcaa", sum := "ff424758dcbb2280f103102fe4e3d3fe38fd667b5571da59a09ddbcdc50a8467", func := "strake/strakelaw16.SpanGrows", spec := "spanGrows", inPlace := ["math/bits.Add64", "math/bits.Sub64"], unfollowed := true, recurses := true, apart := false }
def SpanGrowsSaid : Prop := spanGrowsRow.holds Try.pinned (OpenSpec.ofChange spanGrowsSpec)

/-- ITS FALSE NEIGHBOUR: 'it returns false'. Refute it at one input. -/
def spanGrowsWrong : ChangeSpec := { name := "spanGrows", fn := fun _ => fun
  | [d1, d2, d3, d4] => { results := [.lit (.bool false)], args := [d1, d2, d3, d4] }
  | _ => none }
def SpanGrowsWrongFalsely : Prop := spanGrowsRow.holds Try.pinned (OpenSpec.ofChange spanGrowsWrong)

/- THE SECOND FORM. 'bulk': how many values and letters a reading holds, each counted each time it is reached (what is shared counts as often as it is met; a slice's spare places count too). A statement '..UptoSaid' is the law's where the arguments, and the package variables that the reading takes, are together of bulk at most 1048576: NARROWER than '..Said'. Prove '..Said' where nothing that the law and all that it calls make is longer than what came in: it says more and counts as full. Else prove '..UptoSaid'. A law counts once. -/
mutual
def uptoBulk {H : Type} : DataW H → Nat
  | .lit (.string bytes) => bytes.length + 1
  | .lit _ => 1
  | .nil => 1
  | .ptr d => uptoBulk d + 1
  | .slice elems spare => uptoBulkAll elems + uptoBulkAll spare + 1
  | .agg parts => uptoBulkAll parts + 1
  | .iface _ d => uptoBulk d + 1
  | .map entries => uptoBulkEntries entries + 1
  | .held _ => 1
def uptoBulkAll {H : Type} : List (DataW H) → Nat
  | [] => 0
  | d :: r => uptoBulk d + uptoBulkAll r
def uptoBulkEntries {H : Type} : List (Lit × DataW H) → Nat
  | [] => 0
  | x :: r => uptoBulkEntry x + uptoBulkEntries r
def uptoBulkEntry {H : Type} : Lit × DataW H → Nat
  | (.string bytes, d) => bytes.length + uptoBulk d + 1
  | (_, d) => uptoBulk d + 1
 end
def uptoSmall : (H : Type) → List (DataW H) → Bool := fun _ ds => decide (uptoBulkAll ds ≤ 1048576)
def OpenSpec.upto (s : _root_.Go.ChangeSpec) : _root_.Go.OpenSpec := { _root_.Go.OpenSpec.ofChange s with cond := some uptoSmall }

/-- 'strakelaw16.SpanSums', WHERE WHAT IT READS IS OF BULK AT MOST 1048576: true; the input reads as it did. -/
def spanSumsUptoRow : OpenClaim := { program := "ytppnmdplojemcaa", sum := "ff424758dcbb2280f103102fe4e3d3fe38fd667b5571da59a09ddbcdc50a8467", func := "strake/strakelaw16.SpanSums", spec := "spanSums", inPlace := ["math/bits.Add64", "math/bits.Sub64"], unfollowed := true, recurses := true, apart := false, narrowed := true }
def SpanSumsUptoSaid : Prop := spanSumsUptoRow.holds Try.pinned (OpenSpec.upto spanSumsSpec)

/-- 'strakelaw16.SpanLeast', WHERE WHAT IT READS IS OF BULK AT MOST 1048576: true; the input reads as it did. -/
def spanLeastUptoRow : OpenClaim := { program := "ytppnmdplojemcaa", sum := "ff424758dcbb2280f103102fe4e3d3fe38fd667b5571da59a09ddbcdc50a8467", func := "strake/strakelaw16.SpanLeast", spec := "spanLeast", inPlace := ["math/bits.Add64", "math/bits.Sub64"], unfollowed := true, recurses := true, apart := false, narrowed := true }
def SpanLeastUptoSaid : Prop := spanLeastUptoRow.holds Try.pinned (OpenSpec.upto spanLeastSpec)

/-- 'strakelaw16.SpanJoins', WHERE WHAT IT READS IS OF BULK AT MOST 1048576: true; the input reads as it did. -/
def spanJoinsUptoRow : OpenClaim := { program := "ytppnmdplojemcaa", sum := "ff424758dcbb2280f103102fe4e3d3fe38fd667b5571da59a09ddbcdc50a8467", func := "strake/strakelaw16.SpanJoins", spec := "spanJoins", inPlace := ["math/bits.Add64"], unfollowed := true, recurses := true, apart := false, narrowed := true }
def SpanJoinsUptoSaid : Prop := spanJoinsUptoRow.holds Try.pinned (OpenSpec.upto spanJoinsSpec)

/-- 'strakelaw16.SpanProducts', WHERE WHAT IT READS IS OF BULK AT MOST 1048576: true; the input reads as it did. -/
def spanProductsUptoRow : OpenClaim := { program := "ytppnmdplojemcaa", sum := "ff424758dcbb2280f103102fe4e3d3fe38fd667b5571da59a09ddbcdc50a8467", func := "strake/strakelaw16.SpanProducts", spec := "spanProducts", inPlace := ["math/bits.Add64"], unfollowed := true, recurses := true, apart := false, narrowed := true }
def SpanProductsUptoSaid : Prop := spanProductsUptoRow.holds Try.pinned (OpenSpec.upto spanProductsSpec)

/-- 'strakelaw16.SpanHolds', WHERE WHAT IT READS IS OF BULK AT MOST 1048576: true; the input reads as it did. -/
def spanHoldsUptoRow : OpenClaim := { program := "ytppnmdplojemcaa", sum := "ff424758dcbb2280f103102fe4e3d3fe38fd667b5571da59a09ddbcdc50a8467", func := "strake/strakelaw16.SpanHolds", spec := "spanHolds", inPlace := ["math/bits.Add64", "math/bits.Sub64"], unfollowed := true, recurses := true, apart := false, narrowed := true }
def SpanHoldsUptoSaid : Prop := spanHoldsUptoRow.holds Try.pinned (OpenSpec.upto spanHoldsSpec)

/-- 'strakelaw16.SpanGrows', WHERE WHAT IT READS IS OF BULK AT MOST 1048576: true; the input reads as it did. -/
def spanGrowsUptoRow : OpenClaim := { program := "ytppnmdplojemcaa", sum := "ff424758dcbb2280f103102fe4e3d3fe38fd667b5571da59a09ddbcdc50a8467", func := "strake/strakelaw16.SpanGrows", spec := "spanGrows", inPlace := ["math/bits.Add64", "math/bits.Sub64"], unfollowed := true, recurses := true, apart := false, narrowed := true }
def SpanGrowsUptoSaid : Prop := spanGrowsUptoRow.holds Try.pinned (OpenSpec.upto spanGrowsSpec)

end Rows
end Go.Proofs.Ytppnmdplojemcaa
