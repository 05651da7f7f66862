/-
  No cell of these rows narrows 'for every input' (looked for: loops, veiled, ifaces, maps, wideKeys, modest, calm, conditions, laid).
  DERIVED. THE GIVEN ROWS OF THIS SEAT. 8 by the template 'for every input the law returns true; each argument reads behind the call as it read before'; 0 by the template 'total and deterministic' (their statements: YtpocmldhgnphlaaTotals.lean).
  GIVEN WITH THE SEED: the statements are not yours to turn. If you find one false, say at which input.
  Laid BY PROGRAM, IN A SANDBOX (cutbox-rows.mjs): the forced cells as the released guide's own fill.sh prints them over the translation 8bea0572b631032b… (all of the seat's roots in one cut). By AI agents, Wed Nov 11 2026. No macro, syntax, notation, axiom, sorry.
-/
import Derived.Test.YtpocmldhgnphlaaChecked
import GoSem.Claim
import GoSem.ClaimJoined
import GoSem.ClaimMapViews
import Derived.JoinedTies
import Derived.KernelRfl
namespace Go.Proofs.Ytpocmldhgnphlaa
/- THE CELL 'sum', in the pinned program and in every row, IS THE sha256 OF THE DUMP (.gsa) THAT YtpocmldhgnphlaaProg.lean LOADS. Nothing in Lean hashes anything: it is a label: what it is worth is what the hold of that sum in a sandbox is worth. -/
noncomputable def Try.pinned : Pinned := { name := "ytpocmldhgnphlaa", sum := "8bea0572b631032b513f264595d2a0174b1098dc06e4994efde967855e76738e", checked := Try.checked }
namespace Rows
def none {H : Type} : Left H := { results := [], args := [] }

/-- 'strakelaw12.ChainAdds': WHATEVER THE INPUT: true; the input reads as it did. -/
def chainAddsSpec : ChangeSpec := { name := "chainAdds", fn := fun _ => fun
  | [d] => { results := [.lit (.bool true)], args := [d] }
  | _ => none }
def chainAddsRow : OpenClaim := { program := "ytpocmldhgnphlaa", sum := "8bea0572b631032b513f264595d2a0174b1098dc06e4994efde967855e76738e", func := "strake/strakelaw12.ChainAdds", spec := "chainAdds", apart := false }
def ChainAddsSaid : Prop := chainAddsRow.holds Try.pinned (OpenSpec.ofChange chainAddsSpec)

/-- ITS FALSE NEIGHBOUR: 'it returns false'. Refute it at one input. -/
def chainAddsWrong : ChangeSpec := { name := "chainAdds", fn := fun _ => fun
  | [d] => { results := [.lit (.bool false)], args := [d] }
  | _ => none }
def ChainAddsWrongFalsely : Prop := chainAddsRow.holds Try.pinned (OpenSpec.ofChange chainAddsWrong)

/-- 'strakelaw12.ChainSums': WHATEVER THE INPUT: true; the input reads as it did. -/
def chainSumsSpec : ChangeSpec := { name := "chainSums", fn := fun _ => fun
  | [d1, d2] => { results := [.lit (.bool true)], args := [d1, d2] }
  | _ => none }
def chainSumsRow : OpenClaim := { program := "ytpocmldhgnphlaa", sum := "8bea0572b631032b513f264595d2a0174b1098dc06e4994efde967855e76738e", func := "strake/strakelaw12.ChainSums", spec := "chainSums", recurses := true, apart := false }
def ChainSumsSaid : Prop := chainSumsRow.holds Try.pinned (OpenSpec.ofChange chainSumsSpec)

/-- ITS FALSE NEIGHBOUR: 'it returns false'. Refute it at one input. -/
def chainSumsWrong : ChangeSpec := { name := "chainSums", fn := fun _ => fun
  | [d1, d2] => { results := [.lit (.bool false)], args := [d1, d2] }
  | _ => none }
def ChainSumsWrongFalsely : Prop := chainSumsRow.holds Try.pinned (OpenSpec.ofChange chainSumsWrong)

/-- 'strakelaw12.ChainFits': WHATEVER THE INPUT: true; the input reads as it did. -/
def chainFitsSpec : ChangeSpec := { name := "chainFits", fn := fun _ => fun
  | [d] => { results := [.lit (.bool true)], args := [d] }
  | _ => none }
def chainFitsRow : OpenClaim := { program := "ytpocmldhgnphlaa", sum := "8bea0572b631032b513f264595d2a0174b1098dc06e4994efde967855e76738e", func := "strake/strakelaw12.ChainFits", spec := "chainFits", apart := false }
def ChainFitsSaid : Prop := chainFitsRow.holds Try.pinned (OpenSpec.ofChange chainFitsSpec)

/-- ITS FALSE NEIGHBOUR: 'it returns false'. Refute it at one input. -/
def chainFitsWrong : ChangeSpec := { name := "chainFits", fn := fun _ => fun
  | [d] => { results := [.lit (.bool false)], args := [d] }
  | _ => none }
def ChainFitsWrongFalsely : Prop := chainFitsRow.holds Try.pinned (OpenSpec.ofChange chainFitsWrong)

/-- 'strakelaw12.ChainBack': WHATEVER THE INPUT: true; the input reads as it did. -/
def chainBackSpec : ChangeSpec := { name := "chainBack", fn := fun _ => fun
  | [d] => { results := [.lit (.bool true)], args := [d] }
  | _ => none }
def chainBackRow : OpenClaim := { program := "ytpocmldhgnphlaa", sum := "8bea0572b631032b513f264595d2a0174b1098dc06e4994efde967855e76738e", func := "strake/strakelaw12.ChainBack", spec := "chainBack", apart := false }
def ChainBackSaid : Prop := chainBackRow.holds Try.pinned (OpenSpec.ofChange chainBackSpec)

/-- ITS FALSE NEIGHBOUR: 'it returns false'. Refute it at one input. -/
def chainBackWrong : ChangeSpec := { name := "chainBack", fn := fun _ => fun
  | [d] => { results := [.lit (.bool false)], args := [d] }
  | _ => none }
def ChainBackWrongFalsely : Prop := chainBackRow.holds Try.pinned (OpenSpec.ofChange chainBackWrong)

/-- 'strakelaw12.ChainMuls': WHATEVER THE INPUT: true; the input reads as it did. -/
def chainMulsSpec : ChangeSpec := { name := "chainMuls", fn := fun _ => fun
  | [d1, d2] => { results := [.lit (.bool true)], args := [d1, d2] }
  | _ => none }
def chainMulsRow : OpenClaim := { program := "ytpocmldhgnphlaa", sum := "8bea0572b631032b513f264595d2a0174b1098dc06e4994efde967855e76738e", func := "strake/strakelaw12.ChainMuls", spec := "chainMuls", recurses := true, apart := false }
def ChainMulsSaid : Prop := chainMulsRow.holds Try.pinned (OpenSpec.ofChange chainMulsSpec)

/-- ITS FALSE NEIGHBOUR: 'it returns false'. Refute it at one input. -/
def chainMulsWrong : ChangeSpec := { name := "chainMuls", fn := fun _ => fun
  | [d1, d2] => { results := [.lit (.bool false)], args := [d1, d2] }
  | _ => none }
def ChainMulsWrongFalsely : Prop := chainMulsRow.holds Try.pinned (OpenSpec.ofChange chainMulsWrong)

/-- 'strakelaw12.ChainSwaps': WHATEVER THE INPUT: true; the input reads as it did. -/
def chainSwapsSpec : ChangeSpec := { name := "chainSwaps", fn := fun _ => fun
  | [d1, d2, d3] => { results := [.lit (.bool true)], args := [d1, d2, d3] }
  | _ => none }
def chainSwapsRow : OpenClaim := { program := "ytpocmldhgnphlaa", sum := "8bea0572b631032b513f264595d2a0174b1098dc06e4994efde967855e76738e", func := "strake/strakelaw12.ChainSwaps", spec := "chainSwaps", apart := false }
def ChainSwapsSaid : Prop := chainSwapsRow.holds Try.pinned (OpenSpec.ofChange chainSwapsSpec)

/-- ITS FALSE NEIGHBOUR: 'it returns false'. Refute it at one input. -/
def chainSwapsWrong : ChangeSpec := { name := "chainSwaps", fn := fun _ => fun
  | [d1, d2, d3] => { results := [.lit (.bool false)], args := [d1, d2, d3] }
  | _ => none }
def ChainSwapsWrongFalsely : Prop := chainSwapsRow.holds Try.pinned (OpenSpec.ofChange chainSwapsWrong)

/-- 'strakelaw12.ChainEnds': WHATEVER THE INPUT: true; the input reads as it did. -/
def chainEndsSpec : ChangeSpec := { name := "chainEnds", fn := fun _ => fun
  | [d1, d2] => { results := [.lit (.bool true)], args := [d1, d2] }
  | _ => none }
def chainEndsRow : OpenClaim := { program := "ytpocmldhgnphlaa", sum := "8bea0572b631032b513f264595d2a0174b1098dc06e4994efde967855e76738e", func := "strake/strakelaw12.ChainEnds", spec := "chainEnds", apart := false }
def ChainEndsSaid : Prop := chainEndsRow.holds Try.pinned (OpenSpec.ofChange chainEndsSpec)

/-- ITS FALSE NEIGHBOUR: 'it returns false'. Refute it at one input. -/
def chainEndsWrong : ChangeSpec := { name := "chainEnds", fn := fun _ => fun
  | [d1, d2] => { results := [.lit (.bool false)], args := [d1, d2] }
  | _ => none }
def ChainEndsWrongFalsely : Prop := chainEndsRow.holds Try.pinned (OpenSpec.ofChange chainEndsWrong)

/-- 'strakelaw12.ChainLaws': WHATEVER THE INPUT: true; the input reads as it did. -/
def chainLawsSpec : ChangeSpec := { name := "chainLaws", fn := fun _ => fun
  | [d1, d2, d3, d4] => { results := [.lit (.bool true)], args := [d1, d2, d3, d4] }
  | _ => none }
def chainLawsRow : OpenClaim := { program := "ytpocmldhgnphlaa", sum := "8bea0572b631032b513f264595d2a0174b1098dc06e4994efde967855e76738e", func := "strake/strakelaw12.ChainLaws", spec := "chainLaws", apart := false }
def ChainLawsSaid : Prop := chainLawsRow.holds Try.pinned (OpenSpec.ofChange chainLawsSpec)

/-- ITS FALSE NEIGHBOUR: 'it returns false'. Refute it at one input. -/
def chainLawsWrong : ChangeSpec := { name := "chainLaws", fn := fun _ => fun
  | [d1, d2, d3, d4] => { results := [.lit (.bool false)], args := [d1, d2, d3, d4] }
  | _ => none }
def ChainLawsWrongFalsely : Prop := chainLawsRow.holds Try.pinned (OpenSpec.ofChange chainLawsWrong)

/- THE SECOND FORM. 'bulk': how many values and letters a reading holds, each counted each time it is reached (what is shared counts as often as it is met; a slice's spare places count too). A statement '..UptoSaid' is the law's where the arguments, and the package variables that the reading takes, are together of bulk at most 1048576: NARROWER than '..Said'. Prove '..Said' where nothing that the law and all that it calls make is longer than what came in: it says more and counts as full. Else prove '..UptoSaid'. A law counts once. -/
mutual
def uptoBulk {H : Type} : DataW H → Nat
  | .lit (.string bytes) => bytes.length + 1
  | .lit _ => 1
  | .nil => 1
  | .ptr d => uptoBulk d + 1
  | .slice elems spare => uptoBulkAll elems + uptoBulkAll spare + 1
  | .agg parts => uptoBulkAll parts + 1
  | .iface _ d => uptoBulk d + 1
  | .map entries => uptoBulkEntries entries + 1
  | .held _ => 1
def uptoBulkAll {H : Type} : List (DataW H) → Nat
  | [] => 0
  | d :: r => uptoBulk d + uptoBulkAll r
def uptoBulkEntries {H : Type} : List (Lit × DataW H) → Nat
  | [] => 0
  | x :: r => uptoBulkEntry x + uptoBulkEntries r
def uptoBulkEntry {H : Type} : Lit × DataW H → Nat
  | (.string bytes, d) => bytes.length + uptoBulk d + 1
  | (_, d) => uptoBulk d + 1
 end
def uptoSmall : (H : Type) → List (DataW H) → Bool := fun _ ds => decide (uptoBulkAll ds ≤ 1048576)
def OpenSpec.upto (s : _root_.Go.ChangeSpec) : _root_.Go.OpenSpec := { _root_.Go.OpenSpec.ofChange s with cond := some uptoSmall }

/-- 'strakelaw12.ChainAdds', WHERE WHAT IT READS IS OF BULK AT MOST 1048576: true; the input reads as it did. -/
def chainAddsUptoRow : OpenClaim := { program := "ytpocmldhgnphlaa", sum := "8bea0572b631032b513f264595d2a0174b1098dc06e4994efde967855e76738e", func := "strake/strakelaw12.ChainAdds", spec := "chainAdds", apart := false, narrowed := true }
def ChainAddsUptoSaid : Prop := chainAddsUptoRow.holds Try.pinned (OpenSpec.upto chainAddsSpec)

/-- 'strakelaw12.ChainSums', WHERE WHAT IT READS IS OF BULK AT MOST 1048576: true; the input reads as it did. -/
def chainSumsUptoRow : OpenClaim := { program := "ytpocmldhgnphlaa", sum := "8bea0572b631032b513f264595d2a0174b1098dc06e4994efde967855e76738e", func := "strake/strakelaw12.ChainSums", spec := "chainSums", recurses := true, apart := false, narrowed := true }
def ChainSumsUptoSaid : Prop := chainSumsUptoRow.holds Try.pinned (OpenSpec.upto chainSumsSpec)

/-- 'strakelaw12.ChainFits', WHERE WHAT IT READS IS OF BULK AT MOST 1048576: true; the input reads as it did. -/
def chainFitsUptoRow : OpenClaim := { program := "ytpocmldhgnphlaa", sum := "8bea0572b631032b513f264595d2a0174b1098dc06e4994efde967855e76738e", func := "strake/strakelaw12.ChainFits", spec := "chainFits", apart := false, narrowed := true }
def ChainFitsUptoSaid : Prop := chainFitsUptoRow.holds Try.pinned (OpenSpec.upto chainFitsSpec)

/-- 'strakelaw12.ChainBack', WHERE WHAT IT READS IS OF BULK AT MOST 1048576: true; the input reads as it did. -/
def chainBackUptoRow : OpenClaim := { program := "ytpocmldhgnphlaa", sum := "8bea0572b631032b513f264595d2a0174b1098dc06e4994efde967855e76738e", func := "strake/strakelaw12.ChainBack", spec := "chainBack", apart := false, narrowed := true }
def ChainBackUptoSaid : Prop := chainBackUptoRow.holds Try.pinned (OpenSpec.upto chainBackSpec)

/-- 'strakelaw12.ChainMuls', WHERE WHAT IT READS IS OF BULK AT MOST 1048576: true; the input reads as it did. -/
def chainMulsUptoRow : OpenClaim := { program := "ytpocmldhgnphlaa", sum := "8bea0572b631032b513f264595d2a0174b1098dc06e4994efde967855e76738e", func := "strake/strakelaw12.ChainMuls", spec := "chainMuls", recurses := true, apart := false, narrowed := true }
def ChainMulsUptoSaid : Prop := chainMulsUptoRow.holds Try.pinned (OpenSpec.upto chainMulsSpec)

/-- 'strakelaw12.ChainSwaps', WHERE WHAT IT READS IS OF BULK AT MOST 1048576: true; the input reads as it did. -/
def chainSwapsUptoRow : OpenClaim := { program := "ytpocmldhgnphlaa", sum := "8bea0572b631032b513f264595d2a0174b1098dc06e4994efde967855e76738e", func := "strake/strakelaw12.ChainSwaps", spec := "chainSwaps", apart := false, narrowed := true }
def ChainSwapsUptoSaid : Prop := chainSwapsUptoRow.holds Try.pinned (OpenSpec.upto chainSwapsSpec)

/-- 'strakelaw12.ChainEnds', WHERE WHAT IT READS IS OF BULK AT MOST 1048576: true; the input reads as it did. -/
def chainEndsUptoRow : OpenClaim := { program := "ytpocmldhgnphlaa", sum := "8bea0572b631032b513f264595d2a0174b1098dc06e4994efde967855e76738e", func := "strake/strakelaw12.ChainEnds", spec := "chainEnds", apart := false, narrowed := true }
def ChainEndsUptoSaid : Prop := chainEndsUptoRow.holds Try.pinned (OpenSpec.upto chainEndsSpec)

/-- 'strakelaw12.ChainLaws', WHERE WHAT IT READS IS OF BULK AT MOST 1048576: true; the input reads as it did. -/
def chainLawsUptoRow : OpenClaim := { program := "ytpocmldhgnphlaa", sum := "8bea0572b631032b513f264595d2a0174b1098dc06e4994efde967855e76738e", func := "strake/strakelaw12.ChainLaws", spec := "chainLaws", apart := false, narrowed := true }
def ChainLawsUptoSaid : Prop := chainLawsUptoRow.holds Try.pinned (OpenSpec.upto chainLawsSpec)

end Rows
end Go.Proofs.Ytpocmldhgnphlaa
