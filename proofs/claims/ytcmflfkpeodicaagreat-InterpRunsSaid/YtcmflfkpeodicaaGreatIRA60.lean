/- the run of any function No condition. -/
import Derived.Test.YtcmflfkpeodicaaGreatIRA57
import Derived.Test.YtcmflfkpeodicaaGreatIRA59
namespace Go.Proofs.YtcmflfkpeodicaaGreat
set_option linter.all false
open Go.RowKit Go.ChangeShapes Go.WideShapes Go.ChangeAt
namespace interpRuns
theorem own:ownKnob Tryz.prog.godebug=none:=by kernel_rfl
theorem laidOut:laidOutB Tryz.prog=true:=by kernel_rfl
set_option maxRecDepth 100000 in
theorem lifted (os:Os) (started:os.Started) (H:Type) (enc:TypeId × Value -> H) :
  ReturnsInHanded {} Tryz.checked os 3 .any (Rows.interpRunsSpec.pre6 enc Tryz.prog Tryz.f3 Rows.interpRunsRow.domain false) (Rows.interpRunsSpec.post enc Tryz.prog Tryz.f3 false true false false):=by
 refine returnsInHanded_of_change_sized (C:=Tryz.checked) own started (by kernel_rfl) Tryz.func3
  (ChangeSpec.witness6 (enc:=enc) (C:=Tryz.checked) false ⟨#[],#[.agg #[.slice none 0 0,.int .i64 0,.int .i64 0,.slice none 0 0],.agg #[.slice none 0 0,.slice none 0 0],.int .i64 0],[]⟩ 8 (by kernel_rfl) (by kernel_rfl) (by kernel_rfl) (by kernel_rfl)) ?_
 intro W base args ds gs before hval hW _ hsz _
 have hW':=hW
 obtain ⟨p,q,hA,hV,rfl,hfz,hnd⟩:=hW
 have hval1:∀ (j:Nat) t v,Tryz.f3.params[j]? = some t -> args[j]? = some v -> Value.okWide Tryz.prog W .any base t v:=hval
 have hA1:DataW.TrodAll enc Tryz.prog W 0 (fun _=>true) true Tryz.f3.params.toList args.toList ds p:=hA
 have hsz1:(DataW.weightsEach Tryz.prog (Tryz.f3.params.toList ++ Rows.interpRunsSpec.plain.varTypes Tryz.prog) (ds ++ gs)).all (· <= reachBytes)=true:=hsz
 rw [Tryz.params3] at hA1 hval1 hsz1
 obtain ⟨v0,vs0,d0,ds0,p0,q0,hargs,rfl,rfl,h0,r0⟩:=trodAll_cons hA1
 obtain ⟨v1,vs1,d1,ds1,p1,q1,rfl,rfl,rfl,h1,r1⟩:=trodAll_cons r0
 obtain ⟨v2,vs2,d2,ds2,p2,q2,rfl,rfl,rfl,h2,r2⟩:=trodAll_cons r1
 obtain ⟨rfl,rfl,rfl⟩:=trodAll_nil r2
 obtain rfl:args = #[v0,v1,v2]:=by cases args;simp_all
 obtain ⟨rfl,rfl⟩:=trodVars_none hV
 obtain ⟨x0,hL0⟩:=aCN (hval1 0 25 v0 rfl rfl) h0 (fun n hn=>by have:=List.all_eq_true.1 hsz1 n (DataW.weights_mem_each (j:=0) rfl rfl n hn);simpa using this)
 obtain ⟨x1,hL1⟩:=aAI (hval1 1 28 v1 rfl rfl) h1 (fun n hn=>by have:=List.all_eq_true.1 hsz1 n (DataW.weights_mem_each (j:=1) rfl rfl n hn);simpa using this)
 obtain ⟨a2,rfl,rfl,rfl,w2⟩:=open_int Tryz.underlying3 (hval1 2 3 v2 rfl rfl) h2
 have hL2:In64 a2:=by simpa [Lit.wf,IntKind.min,IntKind.max,IntKind.signed,IntKind.bits,In64] using w2
 refine (aCE x0 x1 hL0 hL1 hL2).mono fun e W' ⟨he,hb⟩=>⟨_,he, ?_⟩
 exact aC0 laidOut rfl (by rw [Tryz.params3];simp;exact ⟨⟨by kernel_rfl,of_decide_eq_true (by kernel_rfl)⟩,⟨by kernel_rfl,of_decide_eq_true (by kernel_rfl)⟩,⟨by kernel_rfl,of_decide_eq_true (by kernel_rfl)⟩⟩) rfl Tryz.underlying4 ⟨rfl,rfl,rfl⟩ hW' hb
theorem holds:Rows.InterpRunsSaid :=
 OpenClaim.holds_of_wide 3 Tryz.f3 rfl rfl rfl rfl rfl rfl rfl ⟨rfl,rfl,rfl,rfl,rfl⟩ rfl rfl rfl rfl rfl (by kernel_rfl) Tryz.func3 joined
  (of_decide_eq_true (by kernel_rfl)) (by unfold Func.isWrapper;first | (rw [if_pos (by decide +kernel)];kernel_rfl) | (rw [if_neg (by decide +kernel)];exact ⟨rfl,rfl⟩))
  (fun os started H enc _=>lifted os started H enc)
end interpRuns
end Go.Proofs.YtcmflfkpeodicaaGreat
