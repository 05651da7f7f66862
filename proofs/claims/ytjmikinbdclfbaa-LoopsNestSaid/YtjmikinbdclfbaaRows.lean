/-
  No cell of these rows narrows 'for every input' (looked for: loops, veiled, ifaces, maps, wideKeys, modest, calm, conditions, laid).
  DERIVED. THE GIVEN ROWS OF THIS SEAT. 7 by the template 'for every input the law returns true; each argument reads behind the call as it read before'; 0 by the template 'total and deterministic' (their statements: YtjmikinbdclfbaaTotals.lean).
  GIVEN WITH THE SEED: the statements are not yours to turn. If you find one false, say at which input.
  Laid BY PROGRAM, IN A SANDBOX (cutbox-rows.mjs): the forced cells as the released guide's own fill.sh prints them over the translation 4d22900919377cff… (all of the seat's roots in one cut). By AI agents, Wed Nov 11 2026. No macro, syntax, notation, axiom, sorry.
-/
import Derived.Test.YtjmikinbdclfbaaChecked
import GoSem.Claim
import GoSem.ClaimJoined
import GoSem.ClaimMapViews
import Derived.JoinedTies
import Derived.KernelRfl
namespace Go.Proofs.Ytjmikinbdclfbaa
/- THE CELL 'sum', in the pinned program and in every row, IS THE sha256 OF THE DUMP (.gsa) THAT YtjmikinbdclfbaaProg.lean LOADS. Nothing in Lean hashes anything: it is a label: what it is worth is what the hold of that sum in a sandbox is worth. -/
noncomputable def Try.pinned : Pinned := { name := "ytjmikinbdclfbaa", sum := "4d22900919377cff1c48e2858ea64a2ce7a3a402abf885ae75e054d047d7857f", checked := Try.checked }
namespace Rows
def none {H : Type} : Left H := { results := [], args := [] }

/-- 'strakelaw06.InterpCalc': WHATEVER THE INPUT: true; the input reads as it did. -/
def interpCalcSpec : ChangeSpec := { name := "interpCalc", fn := fun _ => fun
  | [d1, d2] => { results := [.lit (.bool true)], args := [d1, d2] }
  | _ => none }
def interpCalcRow : OpenClaim := { program := "ytjmikinbdclfbaa", sum := "4d22900919377cff1c48e2858ea64a2ce7a3a402abf885ae75e054d047d7857f", func := "strake/strakelaw06.InterpCalc", spec := "interpCalc", unfollowed := true, recurses := true, apart := false }
def InterpCalcSaid : Prop := interpCalcRow.holds Try.pinned (OpenSpec.ofChange interpCalcSpec)

/-- ITS FALSE NEIGHBOUR: 'it returns false'. Refute it at one input. -/
def interpCalcWrong : ChangeSpec := { name := "interpCalc", fn := fun _ => fun
  | [d1, d2] => { results := [.lit (.bool false)], args := [d1, d2] }
  | _ => none }
def InterpCalcWrongFalsely : Prop := interpCalcRow.holds Try.pinned (OpenSpec.ofChange interpCalcWrong)

/-- 'strakelaw06.InterpFuel': WHATEVER THE INPUT: true; the input reads as it did. -/
def interpFuelSpec : ChangeSpec := { name := "interpFuel", fn := fun _ => fun
  | [d1, d2, d3, d4] => { results := [.lit (.bool true)], args := [d1, d2, d3, d4] }
  | _ => none }
def interpFuelRow : OpenClaim := { program := "ytjmikinbdclfbaa", sum := "4d22900919377cff1c48e2858ea64a2ce7a3a402abf885ae75e054d047d7857f", func := "strake/strakelaw06.InterpFuel", spec := "interpFuel", unfollowed := true, recurses := true, apart := false }
def InterpFuelSaid : Prop := interpFuelRow.holds Try.pinned (OpenSpec.ofChange interpFuelSpec)

/-- ITS FALSE NEIGHBOUR: 'it returns false'. Refute it at one input. -/
def interpFuelWrong : ChangeSpec := { name := "interpFuel", fn := fun _ => fun
  | [d1, d2, d3, d4] => { results := [.lit (.bool false)], args := [d1, d2, d3, d4] }
  | _ => none }
def InterpFuelWrongFalsely : Prop := interpFuelRow.holds Try.pinned (OpenSpec.ofChange interpFuelWrong)

/-- 'strakelaw06.InterpSpare': WHATEVER THE INPUT: true; the input reads as it did. -/
def interpSpareSpec : ChangeSpec := { name := "interpSpare", fn := fun _ => fun
  | [d1, d2, d3] => { results := [.lit (.bool true)], args := [d1, d2, d3] }
  | _ => none }
def interpSpareRow : OpenClaim := { program := "ytjmikinbdclfbaa", sum := "4d22900919377cff1c48e2858ea64a2ce7a3a402abf885ae75e054d047d7857f", func := "strake/strakelaw06.InterpSpare", spec := "interpSpare", unfollowed := true, recurses := true, apart := false }
def InterpSpareSaid : Prop := interpSpareRow.holds Try.pinned (OpenSpec.ofChange interpSpareSpec)

/-- ITS FALSE NEIGHBOUR: 'it returns false'. Refute it at one input. -/
def interpSpareWrong : ChangeSpec := { name := "interpSpare", fn := fun _ => fun
  | [d1, d2, d3] => { results := [.lit (.bool false)], args := [d1, d2, d3] }
  | _ => none }
def InterpSpareWrongFalsely : Prop := interpSpareRow.holds Try.pinned (OpenSpec.ofChange interpSpareWrong)

/-- 'strakelaw06.InterpVisits': WHATEVER THE INPUT: true; the input reads as it did. -/
def interpVisitsSpec : ChangeSpec := { name := "interpVisits", fn := fun _ => fun
  | [d1, d2, d3] => { results := [.lit (.bool true)], args := [d1, d2, d3] }
  | _ => none }
def interpVisitsRow : OpenClaim := { program := "ytjmikinbdclfbaa", sum := "4d22900919377cff1c48e2858ea64a2ce7a3a402abf885ae75e054d047d7857f", func := "strake/strakelaw06.InterpVisits", spec := "interpVisits", unfollowed := true, recurses := true, apart := false }
def InterpVisitsSaid : Prop := interpVisitsRow.holds Try.pinned (OpenSpec.ofChange interpVisitsSpec)

/-- ITS FALSE NEIGHBOUR: 'it returns false'. Refute it at one input. -/
def interpVisitsWrong : ChangeSpec := { name := "interpVisits", fn := fun _ => fun
  | [d1, d2, d3] => { results := [.lit (.bool false)], args := [d1, d2, d3] }
  | _ => none }
def InterpVisitsWrongFalsely : Prop := interpVisitsRow.holds Try.pinned (OpenSpec.ofChange interpVisitsWrong)

/-- 'strakelaw09.LoopsNest': WHATEVER THE INPUT: true; the input reads as it did. -/
def loopsNestSpec : ChangeSpec := { name := "loopsNest", fn := fun _ => fun
  | [d] => { results := [.lit (.bool true)], args := [d] }
  | _ => none }
def loopsNestRow : OpenClaim := { program := "ytjmikinbdclfbaa", sum := "4d22900919377cff1c48e2858ea64a2ce7a3a402abf885ae75e054d047d7857f", func := "strake/strakelaw09.LoopsNest", spec := "loopsNest", inPlace := ["slices.overlaps[int]"], unfollowed := true, recurses := true, apart := false }
def LoopsNestSaid : Prop := loopsNestRow.holds Try.pinned (OpenSpec.ofChange loopsNestSpec)

/-- ITS FALSE NEIGHBOUR: 'it returns false'. Refute it at one input. -/
def loopsNestWrong : ChangeSpec := { name := "loopsNest", fn := fun _ => fun
  | [d] => { results := [.lit (.bool false)], args := [d] }
  | _ => none }
def LoopsNestWrongFalsely : Prop := loopsNestRow.holds Try.pinned (OpenSpec.ofChange loopsNestWrong)

/-- 'strakelaw09.LoopsShut': WHATEVER THE INPUT: true; the input reads as it did. -/
def loopsShutSpec : ChangeSpec := { name := "loopsShut", fn := fun _ => fun
  | [d] => { results := [.lit (.bool true)], args := [d] }
  | _ => none }
def loopsShutRow : OpenClaim := { program := "ytjmikinbdclfbaa", sum := "4d22900919377cff1c48e2858ea64a2ce7a3a402abf885ae75e054d047d7857f", func := "strake/strakelaw09.LoopsShut", spec := "loopsShut", inPlace := ["slices.overlaps[int]"], unfollowed := true, recurses := true, apart := false }
def LoopsShutSaid : Prop := loopsShutRow.holds Try.pinned (OpenSpec.ofChange loopsShutSpec)

/-- ITS FALSE NEIGHBOUR: 'it returns false'. Refute it at one input. -/
def loopsShutWrong : ChangeSpec := { name := "loopsShut", fn := fun _ => fun
  | [d] => { results := [.lit (.bool false)], args := [d] }
  | _ => none }
def LoopsShutWrongFalsely : Prop := loopsShutRow.holds Try.pinned (OpenSpec.ofChange loopsShutWrong)

/-- 'strakelaw09.LoopsWays': WHATEVER THE INPUT: true; the input reads as it did. -/
def loopsWaysSpec : ChangeSpec := { name := "loopsWays", fn := fun _ => fun
  | [d] => { results := [.lit (.bool true)], args := [d] }
  | _ => none }
def loopsWaysRow : OpenClaim := { program := "ytjmikinbdclfbaa", sum := "4d22900919377cff1c48e2858ea64a2ce7a3a402abf885ae75e054d047d7857f", func := "strake/strakelaw09.LoopsWays", spec := "loopsWays", inPlace := ["slices.overlaps[int]"], unfollowed := true, recurses := true, apart := false }
def LoopsWaysSaid : Prop := loopsWaysRow.holds Try.pinned (OpenSpec.ofChange loopsWaysSpec)

/-- ITS FALSE NEIGHBOUR: 'it returns false'. Refute it at one input. -/
def loopsWaysWrong : ChangeSpec := { name := "loopsWays", fn := fun _ => fun
  | [d] => { results := [.lit (.bool false)], args := [d] }
  | _ => none }
def LoopsWaysWrongFalsely : Prop := loopsWaysRow.holds Try.pinned (OpenSpec.ofChange loopsWaysWrong)

/- THE SECOND FORM. 'bulk': how many values and letters a reading holds, each counted each time it is reached (what is shared counts as often as it is met; a slice's spare places count too). A statement '..UptoSaid' is the law's where the arguments, and the package variables that the reading takes, are together of bulk at most 1048576: NARROWER than '..Said'. Prove '..Said' where nothing that the law and all that it calls make is longer than what came in: it says more and counts as full. Else prove '..UptoSaid'. A law counts once. -/
mutual
def uptoBulk {H : Type} : DataW H → Nat
  | .lit (.string bytes) => bytes.length + 1
  | .lit _ => 1
  | .nil => 1
  | .ptr d => uptoBulk d + 1
  | .slice elems spare => uptoBulkAll elems + uptoBulkAll spare + 1
  | .agg parts => uptoBulkAll parts + 1
  | .iface _ d => uptoBulk d + 1
  | .map entries => uptoBulkEntries entries + 1
  | .held _ => 1
def uptoBulkAll {H : Type} : List (DataW H) → Nat
  | [] => 0
  | d :: r => uptoBulk d + uptoBulkAll r
def uptoBulkEntries {H : Type} : List (Lit × DataW H) → Nat
  | [] => 0
  | x :: r => uptoBulkEntry x + uptoBulkEntries r
def uptoBulkEntry {H : Type} : Lit × DataW H → Nat
  | (.string bytes, d) => bytes.length + uptoBulk d + 1
  | (_, d) => uptoBulk d + 1
 end
def uptoSmall : (H : Type) → List (DataW H) → Bool := fun _ ds => decide (uptoBulkAll ds ≤ 1048576)
def OpenSpec.upto (s : _root_.Go.ChangeSpec) : _root_.Go.OpenSpec := { _root_.Go.OpenSpec.ofChange s with cond := some uptoSmall }

/-- 'strakelaw06.InterpCalc', WHERE WHAT IT READS IS OF BULK AT MOST 1048576: true; the input reads as it did. -/
def interpCalcUptoRow : OpenClaim := { program := "ytjmikinbdclfbaa", sum := "4d22900919377cff1c48e2858ea64a2ce7a3a402abf885ae75e054d047d7857f", func := "strake/strakelaw06.InterpCalc", spec := "interpCalc", unfollowed := true, recurses := true, apart := false, narrowed := true }
def InterpCalcUptoSaid : Prop := interpCalcUptoRow.holds Try.pinned (OpenSpec.upto interpCalcSpec)

/-- 'strakelaw06.InterpFuel', WHERE WHAT IT READS IS OF BULK AT MOST 1048576: true; the input reads as it did. -/
def interpFuelUptoRow : OpenClaim := { program := "ytjmikinbdclfbaa", sum := "4d22900919377cff1c48e2858ea64a2ce7a3a402abf885ae75e054d047d7857f", func := "strake/strakelaw06.InterpFuel", spec := "interpFuel", unfollowed := true, recurses := true, apart := false, narrowed := true }
def InterpFuelUptoSaid : Prop := interpFuelUptoRow.holds Try.pinned (OpenSpec.upto interpFuelSpec)

/-- 'strakelaw06.InterpSpare', WHERE WHAT IT READS IS OF BULK AT MOST 1048576: true; the input reads as it did. -/
def interpSpareUptoRow : OpenClaim := { program := "ytjmikinbdclfbaa", sum := "4d22900919377cff1c48e2858ea64a2ce7a3a402abf885ae75e054d047d7857f", func := "strake/strakelaw06.InterpSpare", spec := "interpSpare", unfollowed := true, recurses := true, apart := false, narrowed := true }
def InterpSpareUptoSaid : Prop := interpSpareUptoRow.holds Try.pinned (OpenSpec.upto interpSpareSpec)

/-- 'strakelaw06.InterpVisits', WHERE WHAT IT READS IS OF BULK AT MOST 1048576: true; the input reads as it did. -/
def interpVisitsUptoRow : OpenClaim := { program := "ytjmikinbdclfbaa", sum := "4d22900919377cff1c48e2858ea64a2ce7a3a402abf885ae75e054d047d7857f", func := "strake/strakelaw06.InterpVisits", spec := "interpVisits", unfollowed := true, recurses := true, apart := false, narrowed := true }
def InterpVisitsUptoSaid : Prop := interpVisitsUptoRow.holds Try.pinned (OpenSpec.upto interpVisitsSpec)

/-- 'strakelaw09.LoopsNest', WHERE WHAT IT READS IS OF BULK AT MOST 1048576: true; the input reads as it did. -/
def loopsNestUptoRow : OpenClaim := { program := "ytjmikinbdclfbaa", sum := "4d22900919377cff1c48e2858ea64a2ce7a3a402abf885ae75e054d047d7857f", func := "strake/strakelaw09.LoopsNest", spec := "loopsNest", inPlace := ["slices.overlaps[int]"], unfollowed := true, recurses := true, apart := false, narrowed := true }
def LoopsNestUptoSaid : Prop := loopsNestUptoRow.holds Try.pinned (OpenSpec.upto loopsNestSpec)

/-- 'strakelaw09.LoopsShut', WHERE WHAT IT READS IS OF BULK AT MOST 1048576: true; the input reads as it did. -/
def loopsShutUptoRow : OpenClaim := { program := "ytjmikinbdclfbaa", sum := "4d22900919377cff1c48e2858ea64a2ce7a3a402abf885ae75e054d047d7857f", func := "strake/strakelaw09.LoopsShut", spec := "loopsShut", inPlace := ["slices.overlaps[int]"], unfollowed := true, recurses := true, apart := false, narrowed := true }
def LoopsShutUptoSaid : Prop := loopsShutUptoRow.holds Try.pinned (OpenSpec.upto loopsShutSpec)

/-- 'strakelaw09.LoopsWays', WHERE WHAT IT READS IS OF BULK AT MOST 1048576: true; the input reads as it did. -/
def loopsWaysUptoRow : OpenClaim := { program := "ytjmikinbdclfbaa", sum := "4d22900919377cff1c48e2858ea64a2ce7a3a402abf885ae75e054d047d7857f", func := "strake/strakelaw09.LoopsWays", spec := "loopsWays", inPlace := ["slices.overlaps[int]"], unfollowed := true, recurses := true, apart := false, narrowed := true }
def LoopsWaysUptoSaid : Prop := loopsWaysUptoRow.holds Try.pinned (OpenSpec.upto loopsWaysSpec)

end Rows
end Go.Proofs.Ytjmikinbdclfbaa
