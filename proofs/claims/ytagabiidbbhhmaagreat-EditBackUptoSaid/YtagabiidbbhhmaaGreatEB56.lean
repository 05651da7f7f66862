/- a value that is replaced is used nowhere;the other one as often as both were. WHERE WHAT COMES IN IS OF BULK AT MOST 1048576 (the UptoSaid form). -/
import Derived.Deep.CondSized
import Derived.Test.YtagabiidbbhhmaaGreatEB52
import Derived.Test.YtagabiidbbhhmaaGreatEB54
import Derived.Test.YtagabiidbbhhmaaGreatEB55
namespace Go.Proofs.YtagabiidbbhhmaaGreat
set_option linter.all false
open Go.RowKit Go.ChangeShapes Go.WideShapes Go.ChangeAt
namespace editBack
theorem own:ownKnob Tryz.prog.godebug=none:=by kernel_rfl
theorem laidOut:laidOutB Tryz.prog=true:=by kernel_rfl
set_option maxRecDepth 100000 in
theorem aCC (H:Type) (enc:TypeId × Value -> H) (W:World) (base:Nat) (args:Array Value) (ds gs:List (DataW H)) (before:List MemPlace)
  (hval:∀ (j:Nat) t v,Tryz.f5.params[j]? = some t -> args[j]? = some v -> Value.okWide Tryz.prog W .any base t v)
  (hW:DataW.Whole enc Tryz.prog Tryz.f5.params.toList Rows.editBackSpec.vars false W args.toList ds gs before) (hk:Rows.uptoSmall H (ds ++ gs)=true)
  (hsz:(DataW.weightsEach Tryz.prog (Tryz.f5.params.toList ++ (Rows.OpenSpec.upto Rows.editBackSpec).bare.plain.varTypes Tryz.prog) (ds ++ gs)).all (· <= reachBytes)=true) :
  Calls Tryz.prog 5 args W fun e W' => ∃ v,e = .returned v/\Rows.editBackSpec.post enc Tryz.prog Tryz.f5 false true false false W args v W':=by
 have hW':=hW
 obtain ⟨p,q,hA,hV,rfl,hfz,hnd⟩:=hW
 have hval1:∀ (j:Nat) t v,Tryz.f5.params[j]? = some t -> args[j]? = some v -> Value.okWide Tryz.prog W .any base t v:=hval
 have hA1:DataW.TrodAll enc Tryz.prog W 0 (fun _=>true) true Tryz.f5.params.toList args.toList ds p:=hA
 have hsz1:(DataW.weightsEach Tryz.prog (Tryz.f5.params.toList ++ (Rows.OpenSpec.upto Rows.editBackSpec).bare.plain.varTypes Tryz.prog) (ds ++ gs)).all (· <= reachBytes)=true:=hsz
 rw [Tryz.params5] at hA1 hval1 hsz1
 obtain ⟨v0,vs0,d0,ds0,p0,q0,hargs,rfl,rfl,h0,r0⟩:=trodAll_cons hA1
 obtain ⟨v1,vs1,d1,ds1,p1,q1,rfl,rfl,rfl,h1,r1⟩:=trodAll_cons r0
 obtain ⟨v2,vs2,d2,ds2,p2,q2,rfl,rfl,rfl,h2,r2⟩:=trodAll_cons r1
 obtain ⟨rfl,rfl,rfl⟩:=trodAll_nil r2
 obtain rfl:args = #[v0,v1,v2]:=by cases args;simp_all
 obtain ⟨rfl,rfl⟩:=trodVars_none hV
 obtain ⟨x0,hL0⟩:=aBJ (hval1 0 25 v0 rfl rfl) h0 (fun n hn=>by have:=List.all_eq_true.1 hsz1 n (DataW.weights_mem_each (j:=0) rfl rfl n hn);simpa using this)
 obtain ⟨a1,rfl,rfl,rfl,w1⟩:=open_int Tryz.underlying33 (hval1 1 33 v1 rfl rfl) h1
 have hL1:0 <= a1/\a1 <= 65535:=by simpa [Lit.wf,IntKind.min,IntKind.max,IntKind.signed,IntKind.bits] using w1
 obtain ⟨a2,rfl,rfl,rfl,w2⟩:=open_int Tryz.underlying33 (hval1 2 33 v2 rfl rfl) h2
 have hL2:0 <= a2/\a2 <= 65535:=by simpa [Lit.wf,IntKind.min,IntKind.max,IntKind.signed,IntKind.bits] using w2
 have hk1:=xF (by simpa using hk)
 have hk2:=aAS (aAR hL0 h0) hk1
 refine (aBE x0 hL0 hL1 hL2 hk2).mono fun e W' ⟨he,hb⟩=>⟨_,he, ?_⟩
 exact aB6 laidOut rfl (by rw [Tryz.params5];simp;first | exact ⟨⟨by kernel_rfl,of_decide_eq_true (by kernel_rfl)⟩,⟨by kernel_rfl,of_decide_eq_true (by kernel_rfl)⟩⟩ | exact ⟨by kernel_rfl,by kernel_rfl,by kernel_rfl⟩ | exact ⟨by kernel_rfl,by kernel_rfl⟩) rfl Tryz.underlying4 ⟨rfl,rfl,rfl⟩ hW' hb
set_option maxRecDepth 100000 in
theorem lifted (os:Os) (started:os.Started) (H:Type) (enc:TypeId × Value -> H) (F:Stop.Interp) :
  ReturnsInHanded {} Tryz.checked os 5 .any ((Rows.OpenSpec.upto Rows.editBackSpec).pre6 enc Tryz.prog Tryz.f5 Rows.editBackUptoRow.domain false) (((Rows.OpenSpec.upto Rows.editBackSpec).at F).post enc Tryz.prog Tryz.f5 false true false false):=by
 refine returnsInHanded_of_cond_sized (C:=Tryz.checked) (s:=Rows.OpenSpec.upto Rows.editBackSpec) (k:=Rows.uptoSmall) rfl own started (by kernel_rfl) Tryz.func5
  (OpenSpec.witness (enc:=enc) (C:=Tryz.checked) (s:=Rows.OpenSpec.upto Rows.editBackSpec) (k:=Rows.uptoSmall) rfl false ⟨#[],#[.agg #[.slice none 0 0,.int .i64 0,.int .i64 0,.slice none 0 0],.int .u16 0,.int .u16 0],[]⟩ 8 (by kernel_rfl) (by kernel_rfl) (by kernel_rfl)
   (x:=([.agg [.nil,.lit (.int .i64 0),.lit (.int .i64 0),.nil],.lit (.int .u16 0),.lit (.int .u16 0)],[],[])) (by kernel_rfl) rfl (by kernel_rfl)) ?_
 intro W base args ds gs before hval hW _ hk hsz _
 exact aCC H enc W base args ds gs before hval hW hk hsz
theorem holds:Rows.EditBackUptoSaid :=
 OpenClaim.holds_of_cond 5 Tryz.f5 rfl rfl rfl rfl rfl rfl rfl ⟨rfl,rfl,rfl,rfl,rfl⟩ rfl rfl rfl rfl rfl (by kernel_rfl) Tryz.func5 joined
  (of_decide_eq_true (by kernel_rfl)) (by unfold Func.isWrapper;first | (rw [if_pos (by decide +kernel)];kernel_rfl) | (rw [if_neg (by decide +kernel)];exact ⟨rfl,rfl⟩))
  (fun os started H enc _ F=>lifted os started H enc F)
end editBack
end Go.Proofs.YtagabiidbbhhmaaGreat
