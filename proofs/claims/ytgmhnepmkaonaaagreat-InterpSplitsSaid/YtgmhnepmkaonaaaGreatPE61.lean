/- Part 61. -/
import Derived.Test.YtgmhnepmkaonaaaGreatPE0
import Derived.Test.YtgmhnepmkaonaaaGreatRows
import Derived.JoinedOf
import Derived.Test.YtgmhnepmkaonaaaGreatPE58
namespace Go.Proofs.YtgmhnepmkaonaaaGreat
set_option linter.all false
section
section
theorem mayEnterIs:Tryz.pinned.checked.prog.mayEnter=true:=by kernel_rfl
end
section
open Go.RowKit
namespace interpSplits
theorem joined:joinedFacts Tryz.pinned.checked.prog 11 Tryz.f11 Rows.interpSplitsSpec Rows.interpSplitsRow=true:=by
 unfold joinedFacts;rw [mayEnterIs];kernel_rfl
end interpSplits
end
end
section
open Go.RowKit Go.ChangeShapes Go.WideShapes Go.ChangeAt
namespace interpSplits
theorem own:ownKnob Tryz.prog.godebug=none:=by kernel_rfl
theorem laidOut:laidOutB Tryz.prog=true:=by kernel_rfl
set_option maxRecDepth 100000 in
theorem lifted (os:Os) (started:os.Started) (H:Type) (enc:TypeId × Value -> H) :
  ReturnsInHanded {} Tryz.checked os 11 .any (Rows.interpSplitsSpec.pre6 enc Tryz.prog Tryz.f11 Rows.interpSplitsRow.domain false) (Rows.interpSplitsSpec.post enc Tryz.prog Tryz.f11 false true false false):=by
 refine returnsInHanded_of_change_sized (C:=Tryz.checked) own started (by kernel_rfl) Tryz.func11
  (ChangeSpec.witness6 (enc:=enc) (C:=Tryz.checked) false ⟨#[],#[.agg #[.slice none 0 0,.int .i64 0,.int .i64 0,.slice none 0 0],.agg #[.slice none 0 0,.slice none 0 0],.int .u16 0,.bool false],[]⟩ 8 (by kernel_rfl) (by kernel_rfl) (by kernel_rfl) (by kernel_rfl)) ?_
 intro W base args ds gs before hval hW _ hsz _
 have hW':=hW
 obtain ⟨p,q,hA,hV,rfl,hfz,hnd⟩:=hW
 have hval1:∀ (j:Nat) t v,Tryz.f11.params[j]? = some t -> args[j]? = some v -> Value.okWide Tryz.prog W .any base t v:=hval
 have hA1:DataW.TrodAll enc Tryz.prog W 0 (fun _=>true) true Tryz.f11.params.toList args.toList ds p:=hA
 have hsz1:(DataW.weightsEach Tryz.prog (Tryz.f11.params.toList ++ Rows.interpSplitsSpec.plain.varTypes Tryz.prog) (ds ++ gs)).all (· <= reachBytes)=true:=hsz
 rw [Tryz.params11] at hA1 hval1 hsz1
 obtain ⟨v0,vs0,d0,ds0,p0,q0,hargs,rfl,rfl,h0,r0⟩:=trodAll_cons hA1
 obtain ⟨v1,vs1,d1,ds1,p1,q1,rfl,rfl,rfl,h1,r1⟩:=trodAll_cons r0
 obtain ⟨v2,vs2,d2,ds2,p2,q2,rfl,rfl,rfl,h2,r2⟩:=trodAll_cons r1
 obtain ⟨v3,vs3,d3,ds3,p3,q3,rfl,rfl,rfl,h3,r3⟩:=trodAll_cons r2
 obtain ⟨rfl,rfl,rfl⟩:=trodAll_nil r3
 obtain rfl:args = #[v0,v1,v2,v3]:=by cases args;simp_all
 obtain ⟨rfl,rfl⟩:=trodVars_none hV
 obtain ⟨x0,hL0⟩:=aDN (hval1 0 25 v0 rfl rfl) h0 (fun n hn=>by have:=List.all_eq_true.1 hsz1 n (DataW.weights_mem_each (j:=0) rfl rfl n hn);simpa using this)
 obtain ⟨x1,hL1⟩:=zX (hval1 1 44 v1 rfl rfl) h1 (fun n hn=>by have:=List.all_eq_true.1 hsz1 n (DataW.weights_mem_each (j:=1) rfl rfl n hn);simpa using this)
 obtain ⟨a2,rfl,rfl,rfl,w2⟩:=open_int Tryz.underlying33 (hval1 2 33 v2 rfl rfl) h2
 have hL2:0 <= a2/\a2 <= 65535:=by simpa [Lit.wf,IntKind.min,IntKind.max,IntKind.signed,IntKind.bits] using w2
 obtain ⟨a3,rfl,rfl,rfl⟩:=open_bool Tryz.underlying4 (hval1 3 4 v3 rfl rfl) h3
 refine (tQ x0 x1 a3 hL0 hL1 hL2).mono fun e W' ⟨he,hb⟩=>⟨_,he, ?_⟩
 exact aDY laidOut rfl (by rw [Tryz.params11];simp;exact ⟨⟨by kernel_rfl,of_decide_eq_true (by kernel_rfl)⟩,⟨by kernel_rfl,of_decide_eq_true (by kernel_rfl)⟩,⟨by kernel_rfl,of_decide_eq_true (by kernel_rfl)⟩,⟨by kernel_rfl,of_decide_eq_true (by kernel_rfl)⟩⟩) rfl Tryz.underlying4 ⟨rfl,rfl,rfl⟩ hW' hb
theorem holds:Rows.InterpSplitsSaid :=
 OpenClaim.holds_of_wide 11 Tryz.f11 rfl rfl rfl rfl rfl rfl rfl ⟨rfl,rfl,rfl,rfl,rfl⟩ rfl rfl rfl rfl rfl (by kernel_rfl) Tryz.func11 joined
  (of_decide_eq_true (by kernel_rfl)) (by unfold Func.isWrapper;first | (rw [if_pos (by decide +kernel)];kernel_rfl) | (rw [if_neg (by decide +kernel)];exact ⟨rfl,rfl⟩))
  (fun os started H enc _=>lifted os started H enc)
end interpSplits
end
end Go.Proofs.YtgmhnepmkaonaaaGreat
