/- Part 22. -/
import Derived.Test.YtagabiidbbhhmaaGreatET21
namespace Go.Proofs.YtagabiidbbhhmaaGreat
set_option linter.all false
set_option maxRecDepth 100000
open Go Go.RowKit
namespace Four
section
variable {P:Program} {ops:Array Oper} {XF:Nat->Foot} {I:World->Prop}
def All(XF:Nat->Foot):Foot:=fun k=>∃j,XF j k
def But(ops:Array Oper)(XF:Nat->Foot)(i:Nat):Foot:=fun k=>∃j,j≠i/\depB ops ops.size j i=false/\XF j k
def Rest(XF:Nat->Foot)(i:Nat):Foot:=fun k=>∃j,j≠i/\XF j k
def Step(XF:Nat->Foot)(I:World->Prop)(i:Nat)(w w':World):Prop:=Off (XF i) w w'/\(I w->I w')
def AllR(XF:Nat->Foot)(I:World->Prop)(w w':World):Prop:=Off (All XF) w w'/\I w'
theorem AllR.step{i:Nat}{w0 w w':World}(h:AllR XF I w0 w)(k:Step XF I i w w'):AllR XF I w0 w':=⟨h.1.trans (Off.mono k.1 fun q _ hk=>⟨i,hk⟩),k.2 h.2⟩
theorem Step.but{i q:Nat}{w w':World}(h:Step XF I i w w')(hne:i≠q)(hd:depB ops ops.size i q=false):Off (But ops XF q) w w':=Off.mono h.1 fun k _ hk=>⟨i,hne,hd,hk⟩
theorem Step.rest{i q:Nat}{w w':World}(h:Step XF I i w w')(hne:i≠q):Off (Rest XF q) w w':=Off.mono h.1 fun k _ hk=>⟨i,hne,hk⟩
theorem Step.of(hI:∀w w',I w->Below w.heap.size w w'->I w'){i:Nat}{w w':World}(h:Below w.heap.size w w'):Step XF I i w w':=⟨Off.of_below h _,fun k=>hI w w' k h⟩
def Pre(ops:Array Oper)(XF:Nat->Foot)(I:World->Prop)(i:Nat)(w w':World):Prop:=Off (But ops XF i) w w'/\I w'
theorem Pre.off{i:Nat}{w w':World}(h:Pre ops XF I i w w'):Off (All XF) w w':=Off.mono h.1 fun k _ ⟨j,_,_,hk⟩=>⟨j,hk⟩
theorem AllR.off{w w':World}(h:AllR XF I w w'):Off (All XF) w w':=h.1
def firm(XF:Nat->Foot)(j:Nat)(k:Known):Prop:=match k with
 | .holds S=>∀u w1 w2,S u w1->Off (Rest XF j) w1 w2->S u w2
 | _=>True
def Oper.gives(P:Program)(o:Oper)(a:Act)(w:World)(S:Value->World->Prop)(T:World->World->Prop):Prop:=
 ∃u w',((execOp a.eval o).run P w=.ok (.value u) w'\/((execOp a.eval o).run P w=.ok .skip w'/\u=undef))/\S u w'/\T w w'
def Oper.callsTo2(P:Program)(o:Oper)(a:Act)(w:World)(S:Value->World->Prop)(T:World->World->Prop):Prop:=Oper.callsTo P o a w S\/Oper.gives P o a w S T
def Grow(XF:Nat->Foot)(I:World->Prop)(P:Program)(ops:Array Oper)(w0:World)(Ss:(Nat->Value)->Nat->Known)(ν:Nat->Value)(L:Act->World->Prop):List Oper->Nat->Act->Prop
 | [],k,a=>∀w',AllR XF I w0 w'->(∀j,j<k->(Ss ν j).fact (ν j) w')->xC (Ss ν) ν k->L a w'
 | o :: rest,k,a=>
  if Region.wanted o (yielded ops a.tmps) then
   (Ss ν k=.plain/\∃v,(∀w',Pre ops XF I k w0 w'->kT ops (Ss ν) ν k w'->Oper.yields P o a w' v)/\Grow XF I P ops w0 Ss ν L rest (k+1) (a.put o.dst v))\/
   ((∀w',Pre ops XF I k w0 w'->kT ops (Ss ν) ν k w'->Oper.callsTo2 P o a w' (Ss ν k).spec (Step XF I k))/\Grow XF I P ops w0 Ss ν L rest (k+1) (a.put o.dst ((Ss ν k).val (ν k))))\/
   (∃mk A,Ss ν k=.made w0.heap.size mk A/\(∀w',Pre ops XF I k w0 w'->kT ops (Ss ν) ν k w'->Oper.makes P o a w' mk A)/\Grow XF I P ops w0 Ss ν L rest (k+1) (a.put o.dst ((Ss ν k).val (ν k))))
  else Ss ν k=.plain/\Grow XF I P ops w0 Ss ν L rest (k+1) (a.put o.dst undef)
theorem Grow.val{w0:World}{Ss:(Nat->Value)->Nat->Known}{ν:Nat->Value}{L:Act->World->Prop}{o:Oper}{rest:List Oper}{k:Nat}{a:Act}{v:Value}(hg:Region.wanted o (yielded ops a.tmps)=true)(hk:Ss ν k=.plain)
  (hy:∀w',Pre ops XF I k w0 w'->kT ops (Ss ν) ν k w'->(execOp a.eval o).run P w'=.ok (.value v) w') (h:Grow XF I P ops w0 Ss ν L rest (k+1) (a.put o.dst v)):Grow XF I P ops w0 Ss ν L (o :: rest) k a:=by
 simp only[Grow,hg,if_true];exact .inl ⟨hk,v,fun w' h1 h2=>⟨w',.inl (hy w' h1 h2),Below.refl _ _⟩,h⟩
theorem Grow.call{w0:World}{Ss:(Nat->Value)->Nat->Known}{ν:Nat->Value}{L:Act->World->Prop}{o:Oper}{rest:List Oper}{k:Nat}{a:Act}{f:FuncId}{args:Array Value}(hg:Region.wanted o (yielded ops a.tmps)=true)
  (hrun:∀w':World,(execOp a.eval o).run P w'=.ok (.enter f args) w')
  (hy:∀w',Pre ops XF I k w0 w'->kT ops (Ss ν) ν k w'->Calls P f args w' fun e w''=>∃u,e=.returned u/\(Ss ν k).spec u w''/\Below w'.heap.size w' w'')
  (h:Grow XF I P ops w0 Ss ν L rest (k+1) (a.put o.dst ((Ss ν k).val (ν k)))):Grow XF I P ops w0 Ss ν L (o :: rest) k a:=by
 simp only[Grow,hg,if_true];exact .inr (.inl ⟨fun w' h1 h2=>.inl ⟨f,args,hrun w',hy w' h1 h2⟩,h⟩)
theorem Grow.gives{w0:World}{Ss:(Nat->Value)->Nat->Known}{ν:Nat->Value}{L:Act->World->Prop}{o:Oper}{rest:List Oper}{k:Nat}{a:Act}(hg:Region.wanted o (yielded ops a.tmps)=true)
  (hy:∀w',Pre ops XF I k w0 w'->kT ops (Ss ν) ν k w'->∃u w'',(execOp a.eval o).run P w'=.ok (.value u) w''/\(Ss ν k).spec u w''/\Step XF I k w' w'')
  (h:Grow XF I P ops w0 Ss ν L rest (k+1) (a.put o.dst ((Ss ν k).val (ν k)))):Grow XF I P ops w0 Ss ν L (o :: rest) k a:=by
 simp only[Grow,hg,if_true];exact .inr (.inl ⟨fun w' h1 h2=>.inr (let ⟨u,w'',q1,q2⟩:=hy w' h1 h2; ⟨u,w'',.inl q1,q2⟩),h⟩)
theorem Grow.turns{w0:World}{Ss:(Nat->Value)->Nat->Known}{ν:Nat->Value}{L:Act->World->Prop}{o:Oper}{rest:List Oper}{k:Nat}{a:Act}(hg:Region.wanted o (yielded ops a.tmps)=true)
  (hy:∀w',Pre ops XF I k w0 w'->kT ops (Ss ν) ν k w'->∃w'',(execOp a.eval o).run P w'=.ok .skip w''/\(Ss ν k).spec undef w''/\Step XF I k w' w'')
  (h:Grow XF I P ops w0 Ss ν L rest (k+1) (a.put o.dst ((Ss ν k).val (ν k)))):Grow XF I P ops w0 Ss ν L (o :: rest) k a:=by
 simp only[Grow,hg,if_true];exact .inr (.inl ⟨fun w' h1 h2=>.inr (let ⟨w'',q1,q2⟩:=hy w' h1 h2; ⟨undef,w'',.inr ⟨q1,rfl⟩,q2⟩),h⟩)
theorem Grow.made{w0:World}{Ss:(Nat->Value)->Nat->Known}{ν:Nat->Value}{L:Act->World->Prop}{o:Oper}{rest:List Oper}{k:Nat}{a:Act}{mk:Nat->Value}{A:Array Value}{T:TypeId}(hg:Region.wanted o (yielded ops a.tmps)=true)(hk:Ss ν k=.made w0.heap.size mk A)
  (hy:∀w',Pre ops XF I k w0 w'->kT ops (Ss ν) ν k w'->(execOp a.eval o).run P w'=.ok (.value (mk w'.heap.size)) (w'.alloc (.cells A T))) (h:Grow XF I P ops w0 Ss ν L rest (k+1) (a.put o.dst ((Ss ν k).val (ν k)))):Grow XF I P ops w0 Ss ν L (o :: rest) k a:=by
 simp only[Grow,hg,if_true];exact .inr (.inr ⟨mk,A,hk,fun w' h1 h2=>⟨T,hy w' h1 h2⟩,h⟩)
theorem Grow.skip{w0:World}{Ss:(Nat->Value)->Nat->Known}{ν:Nat->Value}{L:Act->World->Prop}{o:Oper}{rest:List Oper}{k:Nat}{a:Act}(hg:Region.wanted o (yielded ops a.tmps)=false)(hk:Ss ν k=.plain)
  (h:Grow XF I P ops w0 Ss ν L rest (k+1) (a.put o.dst undef)):Grow XF I P ops w0 Ss ν L (o :: rest) k a:=by
 simp only[Grow,hg,bV,if_false];exact⟨hk,h⟩
def lU(XF:Nat->Foot)(I:World->Prop)(P:Program)(ops:Array Oper)(w0:World)(Ss:(Nat->Value)->Nat->Known)(ν:Nat->Value)(o:Oper)(k:Nat)(a:Act)(v:Value):Prop:=
 (Region.wanted o (yielded ops a.tmps)=true/\Ss ν k=.plain/\∀w',Pre ops XF I k w0 w'->kT ops (Ss ν) ν k w'->Oper.yields P o a w' v)\/
 (Region.wanted o (yielded ops a.tmps)=true/\v=(Ss ν k).val (ν k)/\((∀w',Pre ops XF I k w0 w'->kT ops (Ss ν) ν k w'->Oper.callsTo2 P o a w' (Ss ν k).spec (Step XF I k))\/
  ∃mk A,Ss ν k=.made w0.heap.size mk A/\∀w',Pre ops XF I k w0 w'->kT ops (Ss ν) ν k w'->Oper.makes P o a w' mk A))\/
 (Region.wanted o (yielded ops a.tmps)=false/\Ss ν k=.plain/\v=undef)
structure Told(XF:Nat->Foot)(I:World->Prop)(P:Program)(ops:Array Oper)(n:Nat)(w0:World)(Ss:(Nat->Value)->Nat->Known)(L:Act->World->Prop)(a0:Act)(ν vals:Nat->Value):Prop where
 step:∀k o,ops[k]? =some o->k<n->∃b,Fr ops n a0 vals (· <k) b/\lU XF I P ops w0 Ss ν o k b (vals k)
 done:∃b,Fr ops n a0 vals (· <n) b/\∀w',AllR XF I w0 w'->(∀j,j<n->(Ss ν j).fact (ν j) w')->xC (Ss ν) ν n->L b w'
theorem lC{n:Nat}{w0:World}{Ss:(Nat->Value)->Nat->Known}{L:Act->World->Prop}{a0:Act}{ν:Nat->Value}(ht:nN ops n=true):
  ∀(l:List Oper) (k:Nat) (a:Act) (v0:Nat->Value),(∀j,j<l.length->ops[k+j]? =l[j]?)->k+l.length=n->Fr ops n a0 v0 (· <k) a->Grow XF I P ops w0 Ss ν L l k a->
   ∃vals:Nat->Value,(∀j,j<k->vals j=v0 j)/\(∀j o,ops[j]? =some o->k<=j->j<n->∃b,Fr ops n a0 vals (· <j) b/\lU XF I P ops w0 Ss ν o j b (vals j))/\
    ∃b,Fr ops n a0 vals (· <n) b/\∀w',AllR XF I w0 w'->(∀j,j<n->(Ss ν j).fact (ν j) w')->xC (Ss ν) ν n->L b w'
 | [],k,a,v0,_,hk,hf,h=>by
  have ad:k=n:=by simpa using hk
  subst ad;exact⟨v0,fun _ _=>rfl,fun j o _ h1 h2=>by omega,a,hf,h⟩
 | o :: rest,k,a,v0,hl,hk,hf,h=>by
  simp only[bI]at hk;have ho:ops[k]? =some o:=by simpa using hl 0 (by simp)
  have af:∀j,j<rest.length->ops[k+1+j]? =rest[j]?:=fun j hj=>by have:=hl (j+1) (by simp;omega);simpa [Nat.add_assoc,Nat.add_comm 1 j]using this
  have ac:∃v,lU XF I P ops w0 Ss ν o k a v/\Grow XF I P ops w0 Ss ν L rest (k+1) (a.put o.dst v):=by
   simp only[Grow]at h;by_cases hw:Region.wanted o (yielded ops a.tmps)=true
   ·simp only[hw,if_true]at h;rcases h with⟨h1,v,h2,h3⟩|⟨h2,h3⟩|⟨mk,A,h1,h2,h3⟩
    ·exact⟨v,.inl ⟨hw,h1,h2⟩,h3⟩
    ·exact⟨_,.inr (.inl ⟨hw,rfl,.inl h2⟩),h3⟩
    exact⟨_,.inr (.inl ⟨hw,rfl,.inr ⟨mk,A,h1,h2⟩⟩),h3⟩
   simp only[eA]at hw;simp only[hw,bV,if_false]at h;exact⟨undef,.inr (.inr ⟨hw,h.1,rfl⟩),h.2⟩
  obtain⟨v,hs,hg⟩:=ac;let v1:Nat->Value:=fun j=>if j=k then v else v0 j
  have e1:∀j,j<k->v1 j=v0 j:=fun j hj=>by simp only[v1];rw[if_neg (by omega)]
  have ek:v1 k=v:=by simp[v1]
  have aa:Fr ops n a0 v1 (· <k) a:=hf.congr (fun j _ hj=>(e1 j hj).symm) (fun _ _=>Iff.rfl);have ab:=aa.put ht ho (by omega);rw[ek]at ab;have ae:Fr ops n a0 v1 (· <k+1) (a.put o.dst v):=ab.congr (fun _ _ _=>rfl) (fun j _=>by omega);obtain⟨vals,hv,ag,hd⟩:=lC ht rest (k+1) _ v1 af (by omega) ae hg;refine⟨vals,fun j hj=>(hv j (by omega)).trans (e1 j hj),fun j oj hj hkj hjn=> ?_,hd⟩;by_cases hjk:j=k
  ·subst hjk;rw[ho]at hj
   cases hj;refine⟨a,aa.congr (fun i _ hi=>(hv i (by omega)).symm) (fun _ _=>Iff.rfl), ?_⟩;rw[hv j (by omega),ek];exact hs
  exact ag j oj hj (by omega) hjn
theorem qY{n:Nat}{w0:World}{Ss:(Nat->Value)->Nat->Known}{L:Act->World->Prop}{a0:Act}{ν:Nat->Value}{l:List Oper}(ht:nN ops n=true)(hl:∀j,j<l.length->ops[j]? =l[j]?)(hn:l.length=n)
  (h:Grow XF I P ops w0 Ss ν L l 0 a0):∃vals,Told XF I P ops n w0 Ss L a0 ν vals:=by
 obtain⟨vals,_,h1,h2⟩:=lC ht l 0 a0 (fun _=>undef) (fun j hj=>by rw[bM];exact hl j hj) (by omega) (Fr.start fun j _ hj=>by omega) h;exact⟨vals,fun k o hk hkn=>h1 k o hk (by omega) hkn,h2⟩
theorem nO{n:Nat}{w0:World}{Ss:(Nat->Value)->Nat->Known}{L L':Act->World->Prop}{a0:Act}{ν ν' vals vals':Nat->Value}{listed:Array Bool}(ht:nN ops n=true)(hsel:Region.noSelect ops=true)(hn:n<=ops.size)(hS:∀ν ν' k,(∀q,depB ops ops.size k q=true->ν q=ν' q)->Ss ν k=Ss ν' k)
  (hc:∀j oj,ops[j]? =some oj->listed.getD j false=true->∀e∈oj.after,Region.binds .any e=true->listed.getD e.on false=true)
  (h:Told XF I P ops n w0 Ss L a0 ν vals) (h':Told XF I P ops n w0 Ss L' a0 ν' vals') (hw:∀j,listed.getD j false=true->∃wj,Pre ops XF I j w0 wj/\kT ops (Ss ν) ν j wj)
  (hν:∀j,listed.getD j false=true->ν j=ν' j):∀(j:Nat),j<n->listed.getD j false=true->vals j=vals' j:=by
 intro j;induction j using Nat.strongRecOn with
 | _ j ih=>
  intro ac ab
  cases ho:ops[j]? with
  | none=>
   have:=(cZ.1 ho)
   omega
  | some o=>
   obtain⟨b,ak,hs⟩:=h.step j o ho ac
   obtain⟨b',ag,ae⟩:=h'.step j o ho ac
   have an:∀i,i<n->jU ops j i=true->i<j->i<j/\i<j/\vals i=vals' i:=fun i hi he hij=>by obtain⟨oj,aj,e,ah,ai,am⟩:=iE he;refine⟨hij,hij,ih i hij hi ?_⟩;rw[<-am];exact hc j oj aj ab e ah ai
   obtain⟨ex,ew⟩:=kN (ops:=ops) (o:=o) (fun cs b=>Region.noSelect_spec hsel j o cs b ho) (fun d hd=>Fr.same ht ak ag ho ac an d hd)
   have aa:∀i,depB ops ops.size j i=true->listed.getD i false=true:=fun i hi=>
    iF rfl hc ops.size j i (fun o' ho'=>hc j o' ho' ab) hi
   have af:∀i,listed.getD i false=true->Ss ν' i=Ss ν i:=fun i hl=>hS ν' ν i fun q hq=>(hν q (iF rfl hc ops.size i q (fun o' ho'=>hc i o' ho' hl) hq)).symm
   have al:=af j ab
   unfold lU at ae
   rw[al]at ae
   obtain⟨w',hb,F1⟩:=hw j ab
   have F2:kT ops (Ss ν') ν' j w':=fun i hi=>by rw[af i (aa i hi),<-hν i (aa i hi)];exact F1 i hi
   rcases hs with⟨w1,p1,y1⟩|⟨w1,e1,y1⟩|⟨w1,p1,e1⟩<;>rcases ae with⟨w2,p2,y2⟩|⟨w2,e2,y2⟩|⟨w2,p2,e2⟩
   ·obtain⟨x,r1,_⟩:=y1 w' hb F1
    obtain⟨y,r2,_⟩:=y2 w' hb F2
    rw[<-ex]at r2
    rcases r1 with r1|⟨r1,q1⟩<;>rcases r2 with r2|⟨r2,q2⟩<;>rw[r1]at r2<;>simp_all
   ·obtain⟨x,r1,_⟩:=y1 w' hb F1
    rcases y2 with y2|⟨mk,A,hk,_⟩
    ·rcases y2 w' hb F2 with⟨f,ad,r2,_⟩|⟨z,w2,_,hz,_⟩
     ·rw[<-ex]at r2
      rcases r1 with r1|⟨r1,q1⟩<;>rw[r1]at r2<;>simp_all
     rw[p1]at hz;exact hz.elim
    rw[p1]at hk;cases hk
   ·rw[ew,w2]at w1;cases w1
   ·obtain⟨y,r2,_⟩:=y2 w' hb F2
    rcases y1 with y1|⟨mk,A,hk,_⟩
    ·rcases y1 w' hb F1 with⟨f,ad,r1,_⟩|⟨z,w1,_,hz,_⟩
     ·rw[<-ex]at r2
      rcases r2 with r2|⟨r2,q2⟩<;>rw[r1]at r2<;>simp_all
     rw[p2]at hz;exact hz.elim
    rw[p2]at hk;cases hk
   ·rw[e1,e2,hν j ab]
   ·rw[ew,w2]at w1;cases w1
   ·rw[ew,w2]at w1;cases w1
   ·rw[ew,w2]at w1;cases w1
   rw[e1,e2]
set_option maxHeartbeats 1000000 in
theorem pD{n:Nat}{w0:World}{Ss:(Nat->Value)->Nat->Known}{Q:Exit->Act->World->Prop}{tail:List Oper}{a0:Act}(hB:lO ops n=true)(hfirm:∀ν j,firm XF j (Ss ν j))(hS:∀ν ν' k,(∀q,depB ops ops.size k q=true->ν q=ν' q)->Ss ν k=Ss ν' k)(hX:∀j b,XF j b->b<w0.heap.size)(hI:∀w w',I w->Below w.heap.size w w'->I w')(hmB:∀ν j B mk A,Ss ν j=.made B mk A->w0.heap.size<=B)
  (htail:∀j,tail[j]? =ops[n+j]?) (hall:∀ν,∃vals,Told XF I P ops n w0 Ss (wpList P ops Q tail) a0 ν vals):
  ∀(m:Nat) (listed:Array Bool) (a:Act) (w:World) (ν vals:Nat->Value),HeadInv .any ops n listed->cnt listed n=m->Told XF I P ops n w0 Ss (wpList P ops Q tail) a0 ν vals->
   AllR XF I w0 w->(∀q,listed.getD q false=false->Off (But ops XF q) w0 w)->(∀j,listed.getD j false=true->∃wj,Pre ops XF I j w0 wj/\kT ops (Ss ν) ν j wj)->(∀j,j<n->listed.getD j false=true->(Ss ν j).fact (ν j) w)->(∀i j,i≠j->listed.getD i false=true->listed.getD j false=true->(Ss ν i).isMade=true->(Ss ν j).isMade=true->ν i≠ν j)->Fr ops n a0 vals (fun j=>listed.getD j false=true) a->wpAny P .any ops Q (m+(ops.size - n)) listed a w:=by
 simp only[lO,aK,cR,decide_eq_true_eq,beq_iff_eq]at hB;obtain⟨⟨⟨⟨⟨bd,hn⟩,ca⟩,ht⟩,ch⟩,bp⟩:=hB;intro m;induction m with
 | zero=>
  intro listed a w ν vals ad bb ac hb bt am hf bn ba
  have be:tail.length=ops.size - n:=by
   apply eU
   ·by_cases hle:tail.length<=ops.size - n
    ·exact hle
    have h1:=htail (ops.size - n);rw[bH (by omega)]at h1;have:=dS.1 h1;omega
   by_cases hle:ops.size - n<=tail.length
   ·exact hle
   have h1:=htail tail.length;rw[aS (aC _)]at h1;have:=cZ.1 h1.symm;omega
  have hl:∀j,j<n->listed.getD j false=true:=fun j hj=>gQ (lN n bb j hj) (by rw[ad.size];omega)
  have bi:listed=gZ ops.size n:=by
   apply dV;intro j;by_cases hj:j<ops.size
   ·have e2:(gZ ops.size n)[j]? =some (decide (j<n)):=by simp[gZ,hj]
    rw[e2];by_cases hjn:j<n
    ·have:=hl j hjn;rw[bR]at this
     cases hx:listed[j]? with
     | none=>rw[hx]at this;cases this
     | some b=>rw[hx]at this;simp at this;rw[this,decide_eq_true hjn]
    have:=ad.tail j (by omega) hj;rw[bR]at this
    cases hx:listed[j]? with
    | none=>rw[hx]at this;cases this
    | some b=>rw[hx]at this;simp at this;rw[this,decide_eq_false hjn]
   rw[bH (by rw[ad.size];omega),bH (by simp[gZ];omega)]
  obtain⟨b,cd,cc⟩:=ac.done
  have cb:a=b:=ba.eq cd fun j hj=>⟨fun _=>hj,fun _=>hl j hj⟩
  subst cb
  have:=wpAny_of_seq (md:=.any) (Q':=Q) tail n listed a w htail (by rw[bi,be];exact bp) (cc w hb (fun j hj=>hf j hj (hl j hj)) (fun i j hi hj hne h1 h2=>bn i j hne (hl i hi) (hl j hj) h1 h2))
  rw[be]at this
  rw[bM]
  exact this
 | succ m ih=>
  intro listed a w ν vals ad bb ac hb bt am hf bn ba
  rw[show m+1+(ops.size - n)=(m+(ops.size - n))+1 by omega]
  obtain⟨k0,bz,bw,ay⟩:=lV (listed:=listed) n (by omega)
  have ah:k0∈Region.ready .any ops listed:=by refine mem_ready.2 ⟨bw,ops[k0],bE (by omega),fun e he hbi=> ?_⟩;have:=kC ca bz (bE (by omega)) he hbi;exact gQ (ay _ this) (by rw[ad.size];omega)
  refine⟨fun h0=>(by rw[h0]at ah;cases ah),fun i hi=> ?_⟩
  have aq:i<n:=by
   rcases dW i n with h|h
   ·exact h
   rcases ch with h1|h1
   ·obtain⟨_,o,ho,_⟩:=mem_ready.1 hi;have:=(aQ.1 ho).1;omega
   by_cases hns:n<ops.size
   ·exact absurd hi (tail_waits h1.1 h1.2 hns ad _ k0 rfl bz bw i h)
   obtain⟨_,o,ho,_⟩:=mem_ready.1 hi;have:=(aQ.1 ho).1;omega
  obtain⟨bk,o,ho,ao⟩:=mem_ready.1 hi
  have ap:=ad.set hi aq
  have an:cnt (listed.setIfInBounds i true) n=m:=by have:=(oU (by rw[ad.size];omega) bk n).2 aq;omega
  have aa:∀j,(listed.setIfInBounds i true).getD j false=true↔(j=i\/listed.getD j false=true):=fun j=>by
   by_cases e:i=j
   ·subst e;have:i<listed.size:=by rw[ad.size];omega
    simp[this]
   rw[getD_set_ne false e];exact⟨fun h=>.inr h,fun h=>h.resolve_left (fun e'=>e e'.symm)⟩
  obtain⟨b,cg,bc⟩:=ac.step i o ho aq
  have bh:∀d,d∈o.looksAt ops->a.tmps[d]? =b.tmps[d]?:=fun d hd=>Fr.same ht ba cg ho aq (fun j hj he hji=>by
   obtain⟨oj,hoj,e,hem,hbi,hon⟩:=iE he;rw[ho]at hoj
   cases hoj;exact⟨by rw[<-hon];exact ao e hem hbi,hji,rfl⟩) d hd
  obtain⟨ex,ew⟩:=kN (ops:=ops) (o:=o) (fun cs b=>Region.noSelect_spec bd i o cs b ho) bh
  have ai:∀j,depB ops ops.size i j=true->listed.getD j false=true:=fun j hj=>
   iF rfl ad.closed ops.size i j (fun o' ho'=>by rw[ho]at ho';cases ho';exact ao) hj
  have ae:∀j,listed.getD j false=true->j<n:=fun j hj=>by
   rcases dW j n with h|h
   ·exact h
   rcases dW j ops.size with h2|h2
   ·have:=getD_both (ad.tail j h h2);rw[this]at hj;cases hj
   rw[bR,bH (by rw[ad.size];omega)]at hj
   cases hj
  have ab:kT ops (Ss ν) ν i w:=fun j hj=>hf j (ae j (ai j hj)) (ai j hj)
  have ce:w0.heap.size<=w.heap.size:=hb.1.size
  have later:∀(w':World),Step XF I i w w'->∀j,listed.getD j false=true->(Ss ν j).fact (ν j) w':=fun w' hg j hl=>by
   have h1:=hf j (ae j hl) hl;have hji:j≠i:=fun e=>by rw[e,getD_both bk]at hl;cases hl
   have h2:=hfirm ν j;have bv:Off (Rest XF j) w w':=Step.rest hg (fun e=>hji e.symm);have hm:=hmB ν j;generalize Ss ν j=s at h1 h2 hm⊢
   cases s with
   | holds S=>exact h2 _ _ _ h1 bv
   | made B mk A=>
    obtain⟨b,e,hB,hx⟩:=h1
    exact⟨b,e,hB,hx.off bv (fun⟨q,_,hm'⟩=>by have:=hX q b hm';have:=hm B mk A rfl;omega)⟩
   | _=>trivial
  have bf:∀w',Step XF I i w w'->∀q,(listed.setIfInBounds i true).getD q false=false->Off (But ops XF q) w0 w':=fun w' hg q hl=>by
   have hne:i≠q:=fun e=>by rw[(aa q).2 (.inl e.symm)]at hl;cases hl
   have br:listed.getD q false=false:=by rwa[getD_set_ne false hne]at hl
   exact(bt q br).trans (Step.but hg hne (by
    cases hd:depB ops ops.size i q with
    | false=>rfl
    | true=>rw[ai q hd]at br;cases br))
  have aj:Pre ops XF I i w0 w:=⟨bt i (getD_both bk),hb.2⟩
  have next:∀(w':World),Step XF I i w w'->(Ss ν i).fact (ν i) w'->(Ss ν i).isMade=false->wpAny P .any ops Q (m+(ops.size - n)) (listed.setIfInBounds i true) (a.put o.dst (vals i)) w':=fun w' hg hfi hnm=>by
   refine ih _ _ _ ν vals ap an ac (hb.step hg) (bf w' hg) (fun j hl=>by
    rcases(aa j).1 hl with rfl|hl
    ·exact⟨w,aj,ab⟩
    exact am j hl) (fun j hj hl=> ?_) (fun x y hne hx hy hmx hmy=> ?_) ((ba.put ht ho aq).congr (fun _ _ _=>rfl) (fun j _=>(aa j).symm))
   ·rcases(aa j).1 hl with rfl|hl
    ·exact hfi
    exact later w' hg j hl
   rcases(aa x).1 hx with rfl|hx
   ·rw[hnm]at hmx;cases hmx
   rcases(aa y).1 hy with rfl|hy
   ·rw[hnm]at hmy;cases hmy
   exact bn x y hne hx hy hmx hmy
  have fresh:∀(u:Value) (w':World),Step XF I i w w'->(Ss ν i).fact u w'->Ss ν i≠.plain->((Ss ν i).isMade=true->u=.pointer (some ⟨w.heap.size,0,none⟩))->
    wpAny P .any ops Q (m+(ops.size - n)) (listed.setIfInBounds i true) (a.put o.dst ((Ss ν i).val u)) w':=fun u w' hg hs hnp hmk=>by
   let ν':Nat->Value:=fun j=>if j=i then u else ν j
   have bj:ν' i=u:=by simp[ν']
   have al:∀j,listed.getD j false=true->ν j=ν' j:=fun j hj=>by
    have hne:j≠i:=fun e=>by rw[e,getD_both bk]at hj;cases hj
    simp[ν',hne]
   obtain⟨ak,af⟩:=hall ν';have bs:AllR XF I w0 w':=hb.step hg;have aw:∀j,listed.getD j false=true->Ss ν' j=Ss ν j:=fun j hl=>hS ν' ν j fun q hq=>(al q (iF rfl ad.closed ops.size j q (fun o' ho'=>ad.closed j o' ho' hl) hq)).symm;have bl:Ss ν' i=Ss ν i:=hS ν' ν i fun q hq=>(al q (ai q hq)).symm;have az:=nO ht bd hn hS ad.closed ac af am al;have cf:ak i=(Ss ν i).val u:=by
    obtain⟨b',hfb',ag⟩:=af.step i o ho aq;unfold lU at ag;rw[bl]at ag;rcases ag with⟨_,bq,_⟩|⟨_,bO,_⟩|⟨_,bq,_⟩
    ·exact absurd bq hnp
    ·rw[bO,bj]
    exact absurd bq hnp
   have bo:Fr ops n a0 ak (fun j=>listed.getD j false=true) a:=ba.congr (fun j hj hl=>az j hj hl) (fun _ _=>Iff.rfl);have old:∀j,listed.getD j false=true->(Ss ν j).isMade=true->(Ss ν i).isMade=true->ν j≠u:=fun j hl hmj hmi e=>by
    have h1:=hf j (ae j hl) hl;rw[hmk hmi]at e;generalize Ss ν j=s at h1 hmj
    cases s with
    | made B mk A=>
     obtain⟨b,e2,_,hx⟩:=h1
     rw[e]at e2
     simp at e2
     have:=hx.lt
     omega
    | _=>cases hmj
   rw[<-cf];refine ih _ _ _ ν' ak ap an af bs (bf w' hg) (fun j hl=>by
    by_cases e:j=i
    ·subst e;exact⟨w,aj,fun q hq=>by rw[aw q (ai q hq),<-al q (ai q hq)];exact ab q hq⟩
    have ax:=((aa j).1 hl).resolve_left e;obtain⟨wj,h1,h2⟩:=am j ax;have bx:∀q,depB ops ops.size j q=true->listed.getD q false=true:=fun q hq=>iF rfl ad.closed ops.size j q (fun o' ho'=>ad.closed j o' ho' ax) hq;exact⟨wj,h1,fun q hq=>by rw[aw q (bx q hq),<-al q (bx q hq)];exact h2 q hq⟩) (fun j hj hl=> ?_) (fun x y hne hx hy hmx hmy=> ?_) ((bo.put ht ho aq).congr (fun _ _ _=>rfl) (fun j _=>(aa j).symm))
   ·by_cases e:j=i
    ·subst e;rw[bl,bj];exact hs
    have ax:=((aa j).1 hl).resolve_left e;rw[aw j ax,<-al j ax];exact later w' hg j ax
   ·by_cases ex:x=i
    ·subst ex;have ar:=((aa y).1 hy).resolve_left (fun e=>hne e.symm);rw[bl]at hmx;rw[aw y ar]at hmy;rw[bj,<-al y ar];exact fun e=>old y ar hmy hmx e.symm
    have bm:=((aa x).1 hx).resolve_left ex;rw[aw x bm]at hmx;rw[<-al x bm];by_cases ey:y=i
    ·subst ey;rw[bl]at hmy;rw[bj];exact old x bm hmx hmy
    have ar:=((aa y).1 hy).resolve_left ey;rw[aw y ar]at hmy;rw[<-al y ar];exact bn x y hne bm ar hmx hmy
  unfold wpOp
  simp only[ho]
  rw[ew]
  rcases bc with⟨hw,hp,hy⟩|⟨hw,hv,hc⟩|⟨hw,hp,hv⟩
  ·rw[if_pos hw]
   left
   obtain⟨w',hr,hg⟩:=hy w aj ab
   unfold Oper.wp
   rw[ex]
   rcases hr with hr|⟨hr,hv⟩
   ·rw[hr];exact next w' (.of hI hg) (by rw[hp];trivial) (by rw[hp];rfl)
   rw[hr,Oper.upon_skip,<-hv];exact next w' (.of hI hg) (by rw[hp];trivial) (by rw[hp];rfl)
  ·rw[if_pos hw]
   left
   rcases hc with hc|⟨mk,A,hk,hc⟩
   ·rcases hc w aj ab with⟨f,args,hr,bg⟩|⟨u,w',hr,hs,hg⟩
    rotate_left
    ·unfold Oper.wp
     rcases hr with hr|⟨hr,hu⟩
     ·rw[ex,hr,Oper.upon_value]
      cases hk:Ss ν i with
      | plain=>rw[hk]at hs;exact hs.elim
      | made _ _ _=>rw[hk]at hs;exact hs.elim
      | const c=>
       rw[hk]at hs hv
       have:u=vals i:=by rw[hv];exact hs
       rw[this]
       exact next w' hg (by rw[hk];trivial) (by rw[hk];rfl)
      | holds S=>
       rw[hk]at hs
       have:=fresh u w' hg (by rw[hk];exact hs) (by rw[hk];intro h;cases h) (by rw[hk];intro h;cases h)
       rw[hk]at this
       exact this
     rw[ex,hr,Oper.upon_skip,<-hu]
     cases hk:Ss ν i with
     | plain=>rw[hk]at hs;exact hs.elim
     | made _ _ _=>rw[hk]at hs;exact hs.elim
     | const c=>
      rw[hk]at hs hv
      have:u=vals i:=by rw[hv];exact hs
      rw[this]
      exact next w' hg (by rw[hk];trivial) (by rw[hk];rfl)
     | holds S=>
      rw[hk]at hs
      have:=fresh u w' hg (by rw[hk];exact hs) (by rw[hk];intro h;cases h) (by rw[hk];intro h;cases h)
      rw[hk]at this
      exact this
    unfold Oper.wp
    rw[ex,hr,Oper.upon_enter]
    refine bg.mono fun e w' ⟨u,he,hs,hg⟩=> ?_
    subst he
    show wpAny P .any ops Q (m+(ops.size - n)) (listed.setIfInBounds i true) (a.put o.dst u) w'
    cases hk:Ss ν i with
    | plain=>rw[hk]at hs;exact hs.elim
    | made _ _ _=>rw[hk]at hs;exact hs.elim
    | const c=>
     rw[hk]at hs hv
     have:u=vals i:=by rw[hv];exact hs
     rw[this]
     exact next w' (.of hI hg) (by rw[hk];trivial) (by rw[hk];rfl)
    | holds S=>
     rw[hk]at hs
     have:=fresh u w' (.of hI hg) (by rw[hk];exact hs) (by rw[hk];intro h;cases h) (by rw[hk];intro h;cases h)
     rw[hk]at this
     exact this
   obtain⟨T,hr⟩:=hc w aj ab
   unfold Oper.wp
   rw[ex,hr,Oper.upon_value]
   have:=fresh (.pointer (some ⟨w.heap.size,0,none⟩)) (w.alloc (.cells A T)) (.of hI ((Below.refl _ _).alloc (aC _) _)) (by rw[hk];exact⟨_,rfl,ce,Box.new _ _ _⟩) (by rw[hk];intro h;cases h) (fun _=>rfl)
   rw[hk]at this
   exact this
  rw[hw]
  simp only[bV,if_false]
  rw[<-hv]
  exact next w (.of hI (Below.refl _ _)) (by rw[hp];trivial) (by rw[hp];rfl)
theorem wp_region_grow{id:Nat}{Q:Exit->Act->World->Prop}{a:Act}{w:World}{l:List Oper}(n:Nat)(Ss:(Nat->Value)->Nat->Known)(hm:P.follows .mixedOrders=true)(hB:lO l.toArray n=true)(hfirm:∀ν j,firm XF j (Ss ν j))(hS:∀ν ν' k,(∀q,depB l.toArray l.toArray.size k q=true->ν q=ν' q)->Ss ν k=Ss ν' k)(hX:∀j b,XF j b->b<w.heap.size)(hI:∀w w',I w->Below w.heap.size w w'->I w')(hI0:I w)(hmB:∀ν j B mk A,Ss ν j=.made B mk A->w.heap.size<=B)
  (h:∀ν,Grow XF I P l.toArray w Ss ν (wpList P l.toArray Q (l.drop n)) (l.take n) 0 a):(Code.region id l.toArray true).wp P Q a w:=by
 have ad:=hB;simp only[lO,aK,cR,decide_eq_true_eq,beq_iff_eq]at hB;obtain⟨⟨⟨⟨⟨hsel,hn⟩,hed⟩,ht⟩,hsc⟩,hseq⟩:=hB;have hn':n<=l.length:=by simpa using hn
 have ab:∀ν,∃vals,Told XF I P l.toArray n w Ss (wpList P l.toArray Q (l.drop n)) a ν vals:=fun ν=>
  qY ht (fun j hj=>by
   have hj':j<n:=by simp at hj;omega
   simp[hj']) (by simp;omega) (h ν)
 obtain⟨vals,aa⟩:=ab fun _=>undef;refine wp_region_any hm ?_;have ac:HeadInv .any l.toArray n (Array.replicate l.toArray.size false):=
  ⟨by simp,fun j oj _ hl=>(by rw[getD_replicate_false]at hl;cases hl),fun t _ ht=>getD_in (by simpa using ht) (getD_replicate_false _ _)⟩
 have hc:∀m,m<=l.toArray.size->cnt (Array.replicate l.toArray.size false) m=m:=by
  intro m;induction m with
  | zero=>intro _;rfl
  | succ m ih=>
   intro hm
   have:(Array.replicate l.toArray.size false).getD m true=false:=getD_in (by simp at hm⊢;omega) (getD_replicate_false _ _)
   simp only[cnt]
   rw[ih (by omega),this]
   simp
 have:=pD (P:=P) (Q:=Q) (tail:=l.drop n) ad hfirm hS hX hI hmB (fun j=>by simp[bU]) ab n (Array.replicate l.toArray.size false) a w.drew _ vals ac (hc n hn) aa
  ⟨Off.of_below (Below.refl w.heap.size w).drew _,hI _ _ hI0 (Below.refl w.heap.size w).drew⟩ (fun _ _=>Off.of_below (Below.refl w.heap.size w).drew _) (fun j hl=>by rw[getD_replicate_false]at hl;cases hl) (fun j _ hl=>by rw[getD_replicate_false]at hl;cases hl) (fun i j _ hl=>by rw[getD_replicate_false]at hl;cases hl) (Fr.start fun j _ hl=>by rw[getD_replicate_false]at hl;cases hl)
 rw[show n+(l.toArray.size - n)=l.toArray.size by omega]at this;exact this
end
end Four
end Go.Proofs.YtagabiidbbhhmaaGreat
