/- Part 67. -/
import Derived.Test.YtagabiidbbhhmaaGreatET0
import Derived.Test.YtagabiidbbhhmaaGreatRows
import Derived.JoinedOf
import Derived.Test.YtagabiidbbhhmaaGreatET64
namespace Go.Proofs.YtagabiidbbhhmaaGreat
set_option linter.all false
set_option maxRecDepth 100000
section
theorem mayEnterIs:Tryz.pinned.checked.prog.mayEnter=true:=by kernel_rfl
end
section
open Go.RowKit
namespace editSame
theorem joined:joinedFacts Tryz.pinned.checked.prog 10 Tryz.f10 Rows.editSameSpec Rows.editSameRow=true:=by unfold joinedFacts;rw[mayEnterIs];kernel_rfl
end editSame
end
section
open Go.RowKit Go.ChangeShapes Go.WideShapes Go.ChangeAt
namespace editSame
theorem own:ownKnob Tryz.prog.godebug=none:=by kernel_rfl
theorem laidOut:laidOutB Tryz.prog=true:=by kernel_rfl
theorem lifted(os:Os)(started:os.Started)(H:Type)(enc:TypeId×Value->H):
  ReturnsInHanded {} Tryz.checked os 10 .any (Rows.editSameSpec.pre6 enc Tryz.prog Tryz.f10 Rows.editSameRow.domain false) (Rows.editSameSpec.post enc Tryz.prog Tryz.f10 false true false false):=by
 refine returnsInHanded_of_change_sized (C:=Tryz.checked) own started (by kernel_rfl) Tryz.func10
  (ChangeSpec.witness6 (enc:=enc) (C:=Tryz.checked) false ⟨#[],#[.agg #[.slice none 0 0,.int .i64 0,.int .i64 0,.slice none 0 0],.agg #[.slice none 0 0,.slice none 0 0]],[]⟩ 8 (by kernel_rfl) (by kernel_rfl) (by kernel_rfl) (by kernel_rfl)) ?_
 intro W base ab ds gs before ad hW _ ai _;have af:=hW;obtain⟨p,q,hA,hV,rfl,hfz,hnd⟩:=hW;have aa:∀(j:Nat) t v,Tryz.f10.params[j]? =some t->ab[j]? =some v->Value.okWide Tryz.prog W .any base t v:=ad;have ae:DataW.TrodAll enc Tryz.prog W 0 (fun _=>true) true Tryz.f10.params.toList ab.toList ds p:=hA;have ac:(DataW.weightsEach Tryz.prog (Tryz.f10.params.toList++Rows.editSameSpec.plain.varTypes Tryz.prog) (ds++gs)).all (· <=reachBytes)=true:=ai;rw[Tryz.params10]at ae aa ac;obtain⟨v0,vs0,d0,ds0,p0,q0,hargs,rfl,rfl,h0,r0⟩:=trodAll_cons ae;obtain⟨v1,vs1,d1,ds1,p1,q1,rfl,rfl,rfl,h1,r1⟩:=trodAll_cons r0;obtain⟨rfl,rfl,rfl⟩:=trodAll_nil r1;obtain rfl:ab=#[v0,v1]:=by cases ab;simp_all
 obtain⟨rfl,rfl⟩:=trodVars_none hV;obtain⟨x0,ah⟩:=aGY (aa 0 25 v0 rfl rfl) h0 (fun n hn=>by have:=List.all_eq_true.1 ac n (DataW.weights_mem_each (j:=0) rfl rfl n hn);simpa using this);obtain⟨x1,ag⟩:=aFE (aa 1 44 v1 rfl rfl) h1 (fun n hn=>by have:=List.all_eq_true.1 ac n (DataW.weights_mem_each (j:=1) rfl rfl n hn);simpa using this);refine(aH8 x0 x1 ah ag).mono fun e W' ⟨he,hb⟩=>⟨_,he, ?_⟩;exact aH9 laidOut rfl (by rw[Tryz.params10];simp;exact⟨⟨by kernel_rfl,of_decide_eq_true (by kernel_rfl)⟩,⟨by kernel_rfl,of_decide_eq_true (by kernel_rfl)⟩⟩) rfl Tryz.underlying4 ⟨rfl,rfl,rfl⟩ af hb
theorem holds:Rows.EditSameSaid:=
 OpenClaim.holds_of_wide 10 Tryz.f10 rfl rfl rfl rfl rfl rfl rfl ⟨rfl,rfl,rfl,rfl,rfl⟩ rfl rfl rfl rfl rfl (by kernel_rfl) Tryz.func10 joined
  (of_decide_eq_true (by kernel_rfl)) (by unfold Func.isWrapper;first|(rw[if_pos (by decide+kernel)];kernel_rfl)|(rw[if_neg (by decide+kernel)];exact⟨rfl,rfl⟩))
  (fun os started H enc _=>lifted os started H enc)
end editSame
end
end Go.Proofs.YtagabiidbbhhmaaGreat
