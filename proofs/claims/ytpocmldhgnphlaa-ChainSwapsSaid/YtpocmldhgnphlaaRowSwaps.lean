/- ChainSwaps: chains are added and multiplied in any order, a product with a sum is the sum of products, with the chain 1 it is the chain. No condition. -/
import Derived.Test.YtpocmldhgnphlaaLawSwaps
namespace Go.Proofs.Ytpocmldhgnphlaa
set_option linter.unusedSimpArgs false
set_option linter.unusedVariables false
open Go.RowKit Go.ChangeShapes Go.WideShapes Go.ChangeAt

namespace chainSwaps
theorem own : ownKnob Try.prog.godebug = none := by kernel_rfl
theorem laidOut : laidOutB Try.prog = true := by kernel_rfl

set_option maxRecDepth 100000 in
theorem lifted (os : Os) (started : os.Started) (H : Type) (enc : TypeId × Value → H) :
    ReturnsInHanded {} Try.checked os 8 .any (Rows.chainSwapsSpec.pre6 enc Try.prog Try.f8 Rows.chainSwapsRow.domain false) (Rows.chainSwapsSpec.post enc Try.prog Try.f8 false true false false) := by
  refine returnsInHanded_of_change_sized (C := Try.checked) own started (by kernel_rfl) Try.func8
    (ChangeSpec.witness6 (enc := enc) (C := Try.checked) false ⟨#[], #[.slice none 0 0, .slice none 0 0, .slice none 0 0], []⟩ 8 (by kernel_rfl) (by kernel_rfl) (by kernel_rfl) (by kernel_rfl)) ?_
  intro W base args ds gs before hval hW _ hsz _
  have hW' := hW
  obtain ⟨p, q, hA, hV, rfl, hfz, hnd⟩ := hW
  have hval1 : ∀ (j : Nat) t v, Try.f8.params[j]? = some t → args[j]? = some v → Value.okWide Try.prog W .any base t v := hval
  have hA1 : DataW.TrodAll enc Try.prog W 0 (fun _ => true) true Try.f8.params.toList args.toList ds p := hA
  have hsz1 : (DataW.weightsEach Try.prog (Try.f8.params.toList ++ Rows.chainSwapsSpec.plain.varTypes Try.prog) (ds ++ gs)).all (· ≤ reachBytes) = true := hsz
  rw [Try.params8] at hA1 hval1 hsz1
  obtain ⟨v0, vs0, d0, ds0, p0, q0, hargs, rfl, rfl, h0, r0⟩ := trodAll_cons hA1
  obtain ⟨v1, vs1, d1, ds1, p1, q1, rfl, rfl, rfl, h1, r1⟩ := trodAll_cons r0
  obtain ⟨v2, vs2, d2, ds2, p2, q2, rfl, rfl, rfl, h2, r2⟩ := trodAll_cons r1
  obtain ⟨rfl, rfl, rfl⟩ := trodAll_nil r2
  obtain rfl : args = #[v0, v1, v2] := by cases args; simp_all
  obtain ⟨rfl, rfl⟩ := trodVars_none hV
  obtain ⟨a0, len0, cap0, rfl⟩ := okWide_slice Try.underlying24 (hval1 0 24 v0 rfl rfl)
  obtain ⟨xs0, hL0⟩ := open_Ints Try.underlying24 Try.underlying3 (by kernel_rfl) (by kernel_rfl) h0 ⟨_, _, _, rfl⟩
    (fun el sp e => by subst e; have := List.all_eq_true.1 hsz1 _ (DataW.weights_mem_each (j := 0) rfl rfl ((el.length + sp.length) * Try.prog.bytesOf 3) (by simp [DataW.weights, Try.underlying24])); simpa using this)
  obtain ⟨a1, len1, cap1, rfl⟩ := okWide_slice Try.underlying24 (hval1 1 24 v1 rfl rfl)
  obtain ⟨xs1, hL1⟩ := open_Ints Try.underlying24 Try.underlying3 (by kernel_rfl) (by kernel_rfl) h1 ⟨_, _, _, rfl⟩
    (fun el sp e => by subst e; have := List.all_eq_true.1 hsz1 _ (DataW.weights_mem_each (j := 1) rfl rfl ((el.length + sp.length) * Try.prog.bytesOf 3) (by simp [DataW.weights, Try.underlying24])); simpa using this)
  obtain ⟨a2, len2, cap2, rfl⟩ := okWide_slice Try.underlying24 (hval1 2 24 v2 rfl rfl)
  obtain ⟨xs2, hL2⟩ := open_Ints Try.underlying24 Try.underlying3 (by kernel_rfl) (by kernel_rfl) h2 ⟨_, _, _, rfl⟩
    (fun el sp e => by subst e; have := List.all_eq_true.1 hsz1 _ (DataW.weights_mem_each (j := 2) rfl rfl ((el.length + sp.length) * Try.prog.bytesOf 3) (by simp [DataW.weights, Try.underlying24])); simpa using this)
  refine (walkSwaps hL0 hL1 hL2).mono fun e W' ⟨he, hb⟩ => ⟨_, he, ?_⟩
  exact law_post laidOut rfl (by rw [Try.params8]; simp; exact ⟨by kernel_rfl, of_decide_eq_true (by kernel_rfl)⟩) rfl Try.underlying4 ⟨rfl, rfl, rfl⟩ hW' hb

theorem holds : Rows.ChainSwapsSaid :=
  OpenClaim.holds_of_wide 8 Try.f8 rfl rfl rfl rfl rfl rfl rfl ⟨rfl, rfl, rfl, rfl, rfl⟩ rfl rfl rfl rfl rfl (by kernel_rfl) Try.func8 (by kernel_rfl)
    (of_decide_eq_true (by kernel_rfl)) (by unfold Func.isWrapper; first | (rw [if_pos (by decide +kernel)]; kernel_rfl) | (rw [if_neg (by decide +kernel)]; exact ⟨rfl, rfl⟩))
    (fun os started H enc _ => lifted os started H enc)
end chainSwaps
end Go.Proofs.Ytpocmldhgnphlaa
