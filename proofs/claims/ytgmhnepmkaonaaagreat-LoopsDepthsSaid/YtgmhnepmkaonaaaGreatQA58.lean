/- in how many loops each block is,and which edges are odd. No condition. -/
import Derived.Test.YtgmhnepmkaonaaaGreatQA53
import Derived.Test.YtgmhnepmkaonaaaGreatQA57
namespace Go.Proofs.YtgmhnepmkaonaaaGreat
set_option linter.unusedSimpArgs false
set_option linter.unusedVariables false
open Go.RowKit Go.ChangeShapes Go.WideShapes Go.ChangeAt
namespace loopsDepths
theorem own:ownKnob Tryz.prog.godebug=none:=by kernel_rfl
theorem laidOut:laidOutB Tryz.prog=true:=by kernel_rfl
set_option maxRecDepth 100000 in
theorem lifted (os:Os) (started:os.Started) (H:Type) (enc:TypeId × Value -> H) :
  ReturnsInHanded {} Tryz.checked os 9 .any (Rows.loopsDepthsSpec.pre6 enc Tryz.prog Tryz.f9 Rows.loopsDepthsRow.domain false) (Rows.loopsDepthsSpec.post enc Tryz.prog Tryz.f9 false true false false):=by
 refine returnsInHanded_of_change_sized (C:=Tryz.checked) own started (by kernel_rfl) Tryz.func9
  (ChangeSpec.witness6 (enc:=enc) (C:=Tryz.checked) false ⟨#[],#[.agg #[.slice none 0 0,.int .i64 0,.int .i64 0,.slice none 0 0]],[]⟩ 8 (by kernel_rfl) (by kernel_rfl) (by kernel_rfl) (by kernel_rfl)) ?_
 intro W base args ds gs before hval hW _ hsz _
 have hW':=hW
 obtain ⟨p,q,hA,hV,rfl,hfz,hnd⟩:=hW
 have hval1:∀ (j:Nat) t v,Tryz.f9.params[j]? = some t -> args[j]? = some v -> Value.okWide Tryz.prog W .any base t v:=hval
 have hA1:DataW.TrodAll enc Tryz.prog W 0 (fun _=>true) true Tryz.f9.params.toList args.toList ds p:=hA
 have hsz1:(DataW.weightsEach Tryz.prog (Tryz.f9.params.toList ++ Rows.loopsDepthsSpec.plain.varTypes Tryz.prog) (ds ++ gs)).all (· <= reachBytes)=true:=hsz
 rw [Tryz.params9] at hA1 hval1 hsz1
 obtain ⟨v0,vs0,d0,ds0,p0,q0,hargs,rfl,rfl,h0,r0⟩:=trodAll_cons hA1
 obtain ⟨rfl,rfl,rfl⟩:=trodAll_nil r0
 obtain rfl:args = #[v0]:=by cases args;simp_all
 obtain ⟨rfl,rfl⟩:=trodVars_none hV
 obtain ⟨x0,hL0⟩:=get_func (hval1 0 25 v0 rfl rfl) h0 (fun n hn=>by have:=List.all_eq_true.1 hsz1 n (DataW.weights_mem_each (j:=0) rfl rfl n hn);simpa using this)
 refine (walkDepths x0 hL0).mono fun e W' ⟨he,hb⟩=>⟨_,he, ?_⟩
 exact law_post laidOut rfl (by rw [Tryz.params9];simp;exact ⟨by kernel_rfl,of_decide_eq_true (by kernel_rfl)⟩) rfl Tryz.underlying4 ⟨rfl,rfl,rfl⟩ hW' hb
theorem holds:Rows.LoopsDepthsSaid :=
 OpenClaim.holds_of_wide 9 Tryz.f9 rfl rfl rfl rfl rfl rfl rfl ⟨rfl,rfl,rfl,rfl,rfl⟩ rfl rfl rfl rfl rfl (by kernel_rfl) Tryz.func9 joined
  (of_decide_eq_true (by kernel_rfl)) (by unfold Func.isWrapper;first | (rw [if_pos (by decide +kernel)];kernel_rfl) | (rw [if_neg (by decide +kernel)];exact ⟨rfl,rfl⟩))
  (fun os started H enc _=>lifted os started H enc)
end loopsDepths
end Go.Proofs.YtgmhnepmkaonaaaGreat
