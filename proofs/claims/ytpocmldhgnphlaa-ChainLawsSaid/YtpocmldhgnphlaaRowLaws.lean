/- ChainLaws: at each round a sum is the sum, a product the product, the next chain the next value, a chain of sums gains the value. No condition. -/
import Derived.Test.YtpocmldhgnphlaaLawLaws
namespace Go.Proofs.Ytpocmldhgnphlaa
set_option linter.unusedSimpArgs false
set_option linter.unusedVariables false
open Go.RowKit Go.ChangeShapes Go.WideShapes Go.ChangeAt

namespace chainLaws
theorem own : ownKnob Try.prog.godebug = none := by kernel_rfl
theorem laidOut : laidOutB Try.prog = true := by kernel_rfl

set_option maxRecDepth 100000 in
theorem lifted (os : Os) (started : os.Started) (H : Type) (enc : TypeId × Value → H) :
    ReturnsInHanded {} Try.checked os 10 .any (Rows.chainLawsSpec.pre6 enc Try.prog Try.f10 Rows.chainLawsRow.domain false) (Rows.chainLawsSpec.post enc Try.prog Try.f10 false true false false) := by
  refine returnsInHanded_of_change_sized (C := Try.checked) own started (by kernel_rfl) Try.func10
    (ChangeSpec.witness6 (enc := enc) (C := Try.checked) false ⟨#[], #[.slice none 0 0, .slice none 0 0, .int .i64 0, .int .i64 0], []⟩ 8 (by kernel_rfl) (by kernel_rfl) (by kernel_rfl) (by kernel_rfl)) ?_
  intro W base args ds gs before hval hW _ hsz _
  have hW' := hW
  obtain ⟨p, q, hA, hV, rfl, hfz, hnd⟩ := hW
  have hval1 : ∀ (j : Nat) t v, Try.f10.params[j]? = some t → args[j]? = some v → Value.okWide Try.prog W .any base t v := hval
  have hA1 : DataW.TrodAll enc Try.prog W 0 (fun _ => true) true Try.f10.params.toList args.toList ds p := hA
  have hsz1 : (DataW.weightsEach Try.prog (Try.f10.params.toList ++ Rows.chainLawsSpec.plain.varTypes Try.prog) (ds ++ gs)).all (· ≤ reachBytes) = true := hsz
  rw [Try.params10] at hA1 hval1 hsz1
  obtain ⟨v0, vs0, d0, ds0, p0, q0, hargs, rfl, rfl, h0, r0⟩ := trodAll_cons hA1
  obtain ⟨v1, vs1, d1, ds1, p1, q1, rfl, rfl, rfl, h1, r1⟩ := trodAll_cons r0
  obtain ⟨v2, vs2, d2, ds2, p2, q2, rfl, rfl, rfl, h2, r2⟩ := trodAll_cons r1
  obtain ⟨v3, vs3, d3, ds3, p3, q3, rfl, rfl, rfl, h3, r3⟩ := trodAll_cons r2
  obtain ⟨rfl, rfl, rfl⟩ := trodAll_nil r3
  obtain rfl : args = #[v0, v1, v2, v3] := by cases args; simp_all
  obtain ⟨rfl, rfl⟩ := trodVars_none hV
  obtain ⟨a0, len0, cap0, rfl⟩ := okWide_slice Try.underlying24 (hval1 0 24 v0 rfl rfl)
  obtain ⟨xs0, hL0⟩ := open_Ints Try.underlying24 Try.underlying3 (by kernel_rfl) (by kernel_rfl) h0 ⟨_, _, _, rfl⟩
    (fun el sp e => by subst e; have := List.all_eq_true.1 hsz1 _ (DataW.weights_mem_each (j := 0) rfl rfl ((el.length + sp.length) * Try.prog.bytesOf 3) (by simp [DataW.weights, Try.underlying24])); simpa using this)
  obtain ⟨a1, len1, cap1, rfl⟩ := okWide_slice Try.underlying24 (hval1 1 24 v1 rfl rfl)
  obtain ⟨xs1, hL1⟩ := open_Ints Try.underlying24 Try.underlying3 (by kernel_rfl) (by kernel_rfl) h1 ⟨_, _, _, rfl⟩
    (fun el sp e => by subst e; have := List.all_eq_true.1 hsz1 _ (DataW.weights_mem_each (j := 1) rfl rfl ((el.length + sp.length) * Try.prog.bytesOf 3) (by simp [DataW.weights, Try.underlying24])); simpa using this)
  obtain ⟨a2, rfl, rfl, rfl, w2⟩ := open_int Try.underlying3 (hval1 2 3 v2 rfl rfl) h2
  have hL2 : In64 a2 := by simpa [Lit.wf, IntKind.min, IntKind.max, IntKind.signed, IntKind.bits, In64] using w2
  obtain ⟨a3, rfl, rfl, rfl, w3⟩ := open_int Try.underlying3 (hval1 3 3 v3 rfl rfl) h3
  have hL3 : In64 a3 := by simpa [Lit.wf, IntKind.min, IntKind.max, IntKind.signed, IntKind.bits, In64] using w3
  refine (walkLaws hL0 hL1 hL2 hL3).mono fun e W' ⟨he, hb⟩ => ⟨_, he, ?_⟩
  exact law_post laidOut rfl (by rw [Try.params10]; simp; exact ⟨⟨by kernel_rfl, of_decide_eq_true (by kernel_rfl)⟩, ⟨by kernel_rfl, of_decide_eq_true (by kernel_rfl)⟩⟩) rfl Try.underlying4 ⟨rfl, rfl, rfl⟩ hW' hb

theorem holds : Rows.ChainLawsSaid :=
  OpenClaim.holds_of_wide 10 Try.f10 rfl rfl rfl rfl rfl rfl rfl ⟨rfl, rfl, rfl, rfl, rfl⟩ rfl rfl rfl rfl rfl (by kernel_rfl) Try.func10 (by kernel_rfl)
    (of_decide_eq_true (by kernel_rfl)) (by unfold Func.isWrapper; first | (rw [if_pos (by decide +kernel)]; kernel_rfl) | (rw [if_neg (by decide +kernel)]; exact ⟨rfl, rfl⟩))
    (fun os started H enc _ => lifted os started H enc)
end chainLaws
end Go.Proofs.Ytpocmldhgnphlaa
