/- Part 61. -/
import Derived.Test.YtagabiidbbhhmaaGreatEU0
import Derived.Test.YtagabiidbbhhmaaGreatRows
import Derived.JoinedOf
import Derived.Test.YtagabiidbbhhmaaGreatEU58
namespace Go.Proofs.YtagabiidbbhhmaaGreat
set_option linter.all false
section
theorem mayEnterIs:Tryz.pinned.checked.prog.mayEnter=true:=by kernel_rfl
end
section
open Go.RowKit
namespace editUnseen
theorem joined:joinedFacts Tryz.pinned.checked.prog 9 Tryz.f9 Rows.editUnseenSpec Rows.editUnseenRow=true:=by
 unfold joinedFacts;rw [mayEnterIs];kernel_rfl
end editUnseen
end
section
open Go.RowKit Go.ChangeShapes Go.WideShapes Go.ChangeAt
namespace editUnseen
theorem own:ownKnob Tryz.prog.godebug=none:=by kernel_rfl
theorem laidOut:laidOutB Tryz.prog=true:=by kernel_rfl
set_option maxRecDepth 100000 in
theorem lifted (os:Os) (started:os.Started) (H:Type) (enc:TypeId × Value -> H) :
  ReturnsInHanded {} Tryz.checked os 9 .any (Rows.editUnseenSpec.pre6 enc Tryz.prog Tryz.f9 Rows.editUnseenRow.domain false) (Rows.editUnseenSpec.post enc Tryz.prog Tryz.f9 false true false false):=by
 refine returnsInHanded_of_change_sized (C:=Tryz.checked) own started (by kernel_rfl) Tryz.func9
  (ChangeSpec.witness6 (enc:=enc) (C:=Tryz.checked) false ⟨#[],#[.agg #[.slice none 0 0,.int .i64 0,.int .i64 0,.slice none 0 0],.slice none 0 0,.agg #[.slice none 0 0,.slice none 0 0]],[]⟩ 8 (by kernel_rfl) (by kernel_rfl) (by kernel_rfl) (by kernel_rfl)) ?_
 intro W base ac ds gs before ad hW _ ah _
 have aj:=hW
 obtain ⟨p,q,hA,hV,rfl,hfz,hnd⟩:=hW
 have aa:∀ (j:Nat) t v,Tryz.f9.params[j]? = some t -> ac[j]? = some v -> Value.okWide Tryz.prog W .any base t v:=ad
 have ae:DataW.TrodAll enc Tryz.prog W 0 (fun _=>true) true Tryz.f9.params.toList ac.toList ds p:=hA
 have ab:(DataW.weightsEach Tryz.prog (Tryz.f9.params.toList ++ Rows.editUnseenSpec.plain.varTypes Tryz.prog) (ds ++ gs)).all (· <= reachBytes)=true:=ah
 rw [Tryz.params9] at ae aa ab
 obtain ⟨v0,vs0,d0,ds0,p0,q0,hargs,rfl,rfl,h0,r0⟩:=trodAll_cons ae
 obtain ⟨v1,vs1,d1,ds1,p1,q1,rfl,rfl,rfl,h1,r1⟩:=trodAll_cons r0
 obtain ⟨v2,vs2,d2,ds2,p2,q2,rfl,rfl,rfl,h2,r2⟩:=trodAll_cons r1
 obtain ⟨rfl,rfl,rfl⟩:=trodAll_nil r2
 obtain rfl:ac = #[v0,v1,v2]:=by cases ac;simp_all
 obtain ⟨rfl,rfl⟩:=trodVars_none hV
 obtain ⟨x0,ai⟩:=aCK (aa 0 25 v0 rfl rfl) h0 (fun n hn=>by have:=List.all_eq_true.1 ab n (DataW.weights_mem_each (j:=0) rfl rfl n hn);simpa using this)
 obtain ⟨x1,ag⟩:=aA5 (aa 1 66 v1 rfl rfl) h1 (fun n hn=>by have:=List.all_eq_true.1 ab n (DataW.weights_mem_each (j:=1) rfl rfl n hn);simpa using this)
 obtain ⟨x2,af⟩:=aA4 (aa 2 44 v2 rfl rfl) h2 (fun n hn=>by have:=List.all_eq_true.1 ab n (DataW.weights_mem_each (j:=2) rfl rfl n hn);simpa using this)
 refine (wS x0 x2 ai ag af).mono fun e W' ⟨he,hb⟩=>⟨_,he, ?_⟩
 exact aCA laidOut rfl (by rw [Tryz.params9];simp;exact ⟨⟨by kernel_rfl,of_decide_eq_true (by kernel_rfl)⟩,⟨by kernel_rfl,of_decide_eq_true (by kernel_rfl)⟩,⟨by kernel_rfl,of_decide_eq_true (by kernel_rfl)⟩⟩) rfl Tryz.underlying4 ⟨rfl,rfl,rfl⟩ aj hb
theorem holds:Rows.EditUnseenSaid :=
 OpenClaim.holds_of_wide 9 Tryz.f9 rfl rfl rfl rfl rfl rfl rfl ⟨rfl,rfl,rfl,rfl,rfl⟩ rfl rfl rfl rfl rfl (by kernel_rfl) Tryz.func9 joined
  (of_decide_eq_true (by kernel_rfl)) (by unfold Func.isWrapper;first | (rw [if_pos (by decide +kernel)];kernel_rfl) | (rw [if_neg (by decide +kernel)];exact ⟨rfl,rfl⟩))
  (fun os started H enc _=>lifted os started H enc)
end editUnseen
end
end Go.Proofs.YtagabiidbbhhmaaGreat
