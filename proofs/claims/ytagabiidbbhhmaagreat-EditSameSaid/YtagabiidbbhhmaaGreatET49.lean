/- Part 49. -/
import Derived.Test.YtagabiidbbhhmaaGreatET2
namespace Go.Proofs.YtagabiidbbhhmaaGreat
set_option linter.all false
set_option maxRecDepth 100000
open Go.RowKit
section
variable {P:Program} {ops:Array Oper}
def Oper.callsOne(P:Program)(o:Oper)(a:Act)(w:World)(D:Nat->Prop)(v:Value)(T:World->Prop)(Z:List PanicEntry->World->Prop):Prop:=
 ∃f args,(execOp a.eval o).run P w=.ok (.enter f args) w/\Calls P f args w fun e w'=>(e=.returned v/\T w')\/∃ch,e=.panicked ch/\Z ch w'
def jO(P:Program)(ops:Array Oper)(w0:World)(p:Nat)(D:Nat->Prop)(v:Value)(T:World->Prop)(Z:List PanicEntry->World->Prop)(L:Act->World->Prop):List Oper->Nat->Act->Prop
 | [],_,a=>∀w',T w'->L a w'
 | o :: rest,k,a=>
  if k=p then (Region.wanted o (yielded ops a.tmps)=true/\∀w',Below w0.heap.size w0 w'->Oper.callsOne P o a w' D v T Z)/\jO P ops w0 p D v T Z L rest (k+1) (a.put o.dst v)
  else if Region.wanted o (yielded ops a.tmps) then ∃v',(∀w',(Below w0.heap.size w0 w'\/T w')->Oper.yields P o a w' v')/\jO P ops w0 p D v T Z L rest (k+1) (a.put o.dst v')
  else jO P ops w0 p D v T Z L rest (k+1) (a.put o.dst undef)
section
variable {w0:World} {p:Nat} {D:Nat->Prop} {v:Value} {T:World->Prop} {Z:List PanicEntry->World->Prop} {L:Act->World->Prop} {o:Oper} {rest:List Oper} {k:Nat} {a:Act}
theorem jO.val{v':Value}(hk:k≠p)(hg:Region.wanted o (yielded ops a.tmps)=true)
  (hy:∀w',(Below w0.heap.size w0 w'\/T w')->(execOp a.eval o).run P w'=.ok (.value v') w') (h:jO P ops w0 p D v T Z L rest (k+1) (a.put o.dst v')):jO P ops w0 p D v T Z L (o :: rest) k a:=by
 simp only[jO,hg,if_true,if_neg hk];exact⟨v',fun w' h1=>⟨w',.inl (hy w' h1),Below.refl _ _⟩,h⟩
theorem jO.call{f:FuncId}{args:Array Value}(hk:k=p)(hg:Region.wanted o (yielded ops a.tmps)=true)
  (hrun:∀w':World,(execOp a.eval o).run P w'=.ok (.enter f args) w') (hy:∀w',Below w0.heap.size w0 w'->Calls P f args w' fun e w''=>(e=.returned v/\T w'')\/∃ch,e=.panicked ch/\Z ch w'')
  (h:jO P ops w0 p D v T Z L rest (k+1) (a.put o.dst v)):jO P ops w0 p D v T Z L (o :: rest) k a:=by
 simp only[jO,if_pos hk];exact⟨⟨hg,fun w' h1=>⟨f,args,hrun w',hy w' h1⟩⟩,h⟩
theorem jO.skip(hk:k≠p)(hg:Region.wanted o (yielded ops a.tmps)=false)(h:jO P ops w0 p D v T Z L rest (k+1) (a.put o.dst undef)):jO P ops w0 p D v T Z L (o :: rest) k a:=by simp only[jO,hg,if_neg hk];exact h
end
def aI4(P:Program)(ops:Array Oper)(w0:World)(p:Nat)(D:Nat->Prop)(v:Value)(T:World->Prop)(Z:List PanicEntry->World->Prop)(o:Oper)(k:Nat)(a:Act)(u:Value):Prop:=
 (k=p/\u=v/\Region.wanted o (yielded ops a.tmps)=true/\∀w',Below w0.heap.size w0 w'->Oper.callsOne P o a w' D v T Z)\/
 (k≠p/\Region.wanted o (yielded ops a.tmps)=true/\∀w',(Below w0.heap.size w0 w'\/T w')->Oper.yields P o a w' u)\/
 (k≠p/\Region.wanted o (yielded ops a.tmps)=false/\u=undef)
theorem aLA{n:Nat}{w0:World}{p:Nat}{D:Nat->Prop}{v:Value}{T:World->Prop}{Z:List PanicEntry->World->Prop}{L:Act->World->Prop}{a0:Act}(ht:nN ops n=true):
  ∀(l:List Oper) (k:Nat) (a:Act) (v0:Nat->Value),(∀j,j<l.length->ops[k+j]? =l[j]?)->k+l.length=n->Fr ops n a0 v0 (· <k) a->jO P ops w0 p D v T Z L l k a->
   ∃vals:Nat->Value,(∀j,j<k->vals j=v0 j)/\(∀j o,ops[j]? =some o->k<=j->j<n->∃b,Fr ops n a0 vals (· <j) b/\aI4 P ops w0 p D v T Z o j b (vals j))/\
    ∃b,Fr ops n a0 vals (· <n) b/\∀w',T w'->L b w'
 | [],k,a,v0,_,hk,hf,h=>by
  have ag:k=n:=by simpa using hk
  subst ag;exact⟨v0,fun _ _=>rfl,fun j o _ h1 h2=>by omega,a,hf,h⟩
 | o :: rest,k,a,v0,hl,hk,hf,h=>by
  simp only[bI]at hk;have ho:ops[k]? =some o:=by simpa using hl 0 (by simp)
  have ac:∀j,j<rest.length->ops[k+1+j]? =rest[j]?:=fun j hj=>by have:=hl (j+1) (by simp;omega);simpa [Nat.add_assoc,Nat.add_comm 1 j]using this
  have ad:∃u,aI4 P ops w0 p D v T Z o k a u/\jO P ops w0 p D v T Z L rest (k+1) (a.put o.dst u):=by
   simp only[jO]at h;by_cases hkp:k=p
   ·rw[if_pos hkp]at h;exact⟨v,.inl ⟨hkp,rfl,h.1.1,h.1.2⟩,h.2⟩
   rw[if_neg hkp]at h;by_cases hw:Region.wanted o (yielded ops a.tmps)=true
   ·simp only[hw,if_true]at h;obtain⟨u,h2,h3⟩:=h;exact⟨u,.inr (.inl ⟨hkp,hw,h2⟩),h3⟩
   simp only[eA]at hw;simp only[hw,bV,if_false]at h;exact⟨undef,.inr (.inr ⟨hkp,hw,rfl⟩),h⟩
  obtain⟨u,hs,hg⟩:=ad;let v1:Nat->Value:=fun j=>if j=k then u else v0 j
  have e1:∀j,j<k->v1 j=v0 j:=fun j hj=>by simp only[v1];rw[if_neg (by omega)]
  have ek:v1 k=u:=by simp[v1]
  have aa:Fr ops n a0 v1 (· <k) a:=hf.congr (fun j _ hj=>(e1 j hj).symm) (fun _ _=>Iff.rfl);have ab:=aa.put ht ho (by omega);rw[ek]at ab;have ae:Fr ops n a0 v1 (· <k+1) (a.put o.dst u):=ab.congr (fun _ _ _=>rfl) (fun j _=>by omega);obtain⟨vals,hv,af,hd⟩:=aLA ht rest (k+1) _ v1 ac (by omega) ae hg;refine⟨vals,fun j hj=>(hv j (by omega)).trans (e1 j hj),fun j oj hj hkj hjn=> ?_,hd⟩;by_cases hjk:j=k
  ·subst hjk;rw[ho]at hj
   cases hj;refine⟨a,aa.congr (fun i _ hi=>(hv i (by omega)).symm) (fun _ _=>Iff.rfl), ?_⟩;rw[hv j (by omega),ek];exact hs
  exact af j oj hj (by omega) hjn
set_option maxHeartbeats 1000000 in
theorem aI5{n:Nat}{w0:World}{p:Nat}{D:Nat->Prop}{v:Value}{T:World->Prop}{Z:List PanicEntry->World->Prop}{Q:Exit->Act->World->Prop}{tail:List Oper}{a0:Act}(hB:lO ops n=true)(hp:p<n){vals:Nat->Value}
  (htail:∀j,tail[j]? =ops[n+j]?) (hT:∀w w',T w->Below w.heap.size w w'->T w')
  (hst:∀j o,ops[j]? =some o->j<n->∃b,Fr ops n a0 vals (· <j) b/\aI4 P ops w0 p D v T Z o j b (vals j)) (hdone:∃b,Fr ops n a0 vals (· <n) b/\∀w',T w'->wpList P ops Q tail b w') (hQ:∀ch a' w',a'.defers=a0.defers->Z ch w'->Q (.panic ch) a' w'):
  ∀(m:Nat) (listed:Array Bool) (a:Act) (w:World),HeadInv .any ops n listed->cnt listed n=m->
   ((listed.getD p true=false/\Below w0.heap.size w0 w)\/(listed.getD p false=true/\T w))->Fr ops n a0 vals (fun j=>listed.getD j false=true) a->wpAny P .any ops Q (m+(ops.size - n)) listed a w:=by
 simp only[lO,aK,cR,decide_eq_true_eq,beq_iff_eq]at hB;obtain⟨⟨⟨⟨⟨ar,hn⟩,ba⟩,ht⟩,bf⟩,aq⟩:=hB;intro m;induction m with
 | zero=>
  intro listed a w ab af ai ag
  have aj:tail.length=ops.size - n:=by
   apply eU
   ·by_cases hle:tail.length<=ops.size - n
    ·exact hle
    have h1:=htail (ops.size - n);rw[bH (by omega)]at h1;have:=dS.1 h1;omega
   by_cases hle:ops.size - n<=tail.length
   ·exact hle
   have h1:=htail tail.length;rw[aS (aC _)]at h1;have:=cZ.1 h1.symm;omega
  have hl:∀j,j<n->listed.getD j false=true:=fun j hj=>gQ (lN n af j hj) (by rw[ab.size];omega)
  have al:listed=gZ ops.size n:=by
   apply dV;intro j;by_cases hj:j<ops.size
   ·have e2:(gZ ops.size n)[j]? =some (decide (j<n)):=by simp[gZ,hj]
    rw[e2];by_cases hjn:j<n
    ·have:=hl j hjn;rw[bR]at this
     cases hx:listed[j]? with
     | none=>rw[hx]at this;cases this
     | some b=>rw[hx]at this;simp at this;rw[this,decide_eq_true hjn]
    have:=ab.tail j (by omega) hj;rw[bR]at this
    cases hx:listed[j]? with
    | none=>rw[hx]at this;cases this
    | some b=>rw[hx]at this;simp at this;rw[this,decide_eq_false hjn]
   rw[bH (by rw[ab.size];omega),bH (by simp[gZ];omega)]
  have bg:T w:=by
   rcases ai with⟨h1,_⟩|⟨_,h2⟩
   ·have:=lN n af p hp;rw[this]at h1;cases h1
   exact h2
  obtain⟨b,be,az⟩:=hdone
  have bi:a=b:=ag.eq be fun j hj=>⟨fun _=>hj,fun _=>hl j hj⟩
  subst bi
  have:=wpAny_of_seq (md:=.any) (Q':=Q) tail n listed a w htail (by rw[al,aj];exact aq) (az w bg)
  rw[aj]at this
  rw[bM]
  exact this
 | succ m ih=>
  intro listed a w ab af ai ag
  rw[show m+1+(ops.size - n)=(m+(ops.size - n))+1 by omega]
  obtain⟨k0,ay,aw,am⟩:=lV (listed:=listed) n (by omega)
  have aa:k0∈Region.ready .any ops listed:=by refine mem_ready.2 ⟨aw,ops[k0],bE (by omega),fun e he hbi=> ?_⟩;have:=kC ba ay (bE (by omega)) he hbi;exact gQ (am _ this) (by rw[ab.size];omega)
  refine⟨fun h0=>(by rw[h0]at aa;cases aa),fun i hi=> ?_⟩
  have ah:i<n:=by
   rcases dW i n with h|h
   ·exact h
   rcases bf with h1|h1
   ·obtain⟨_,o,ho,_⟩:=mem_ready.1 hi;have:=(aQ.1 ho).1;omega
   by_cases hns:n<ops.size
   ·exact absurd hi (tail_waits h1.1 h1.2 hns ab _ k0 rfl ay aw i h)
   obtain⟨_,o,ho,_⟩:=mem_ready.1 hi;have:=(aQ.1 ho).1;omega
  obtain⟨ax,o,ho,ao⟩:=mem_ready.1 hi
  have ad:=ab.set hi ah
  have ae:cnt (listed.setIfInBounds i true) n=m:=by have:=(oU (by rw[ab.size];omega) ax n).2 ah;omega
  have ac:∀j,(listed.setIfInBounds i true).getD j false=true↔(j=i\/listed.getD j false=true):=fun j=>by
   by_cases e:i=j
   ·subst e;have:i<listed.size:=by rw[ab.size];omega
    simp[this]
   rw[getD_set_ne false e];exact⟨fun h=>.inr h,fun h=>h.resolve_left (fun e'=>e e'.symm)⟩
  obtain⟨b,bc,ap⟩:=hst i o ho ah
  have an:∀d,d∈o.looksAt ops->a.tmps[d]? =b.tmps[d]?:=fun d hd=>Fr.same ht ag bc ho ah (fun j hj he hji=>by
   obtain⟨oj,hoj,e,hem,hbi,hon⟩:=iE he;rw[ho]at hoj
   cases hoj;exact⟨by rw[<-hon];exact ao e hem hbi,hji,rfl⟩) d hd
  obtain⟨ex,ew⟩:=kN (ops:=ops) (o:=o) (fun cs b=>Region.noSelect_spec ar i o cs b ho) an
  have bd:Below w0.heap.size w0 w\/T w:=ai.imp (fun h=>h.2) (fun h=>h.2)
  have next:i≠p->∀(w':World),Below w.heap.size w w'->wpAny P .any ops Q (m+(ops.size - n)) (listed.setIfInBounds i true) (a.put o.dst (vals i)) w':=fun hip w' hg=>by
   refine ih _ _ _ ad ae ?_ ((ag.put ht ho ah).congr (fun _ _ _=>rfl) (fun j _=>(ac j).symm));rcases ai with⟨h1,h2⟩|⟨h1,h2⟩
   ·left;exact⟨by rw[getD_set_ne true hip];exact h1,Below.more h2 h2.size hg⟩
   right;exact⟨(ac p).2 (.inr h1),hT w w' h2 hg⟩
  unfold wpOp
  simp only[ho]
  rw[ew]
  rcases ap with⟨hip,bh,hw,hy⟩|⟨hip,hw,hy⟩|⟨hip,hw,hv⟩
  ·rw[if_pos hw]
   left
   subst hip
   have bb:Below w0.heap.size w0 w:=by
    rcases ai with⟨_,h2⟩|⟨h1,_⟩
    ·exact h2
    rw[getD_both ax]at h1;cases h1
   obtain⟨f,args,hr,ak⟩:=hy w bb
   unfold Oper.wp
   rw[ex,hr,Oper.upon_enter]
   refine ak.mono fun e w' hz=> ?_
   rcases hz with⟨he,hz⟩|⟨ch,he,hz⟩
   ·subst he
    show wpAny P .any ops Q (m+(ops.size - n)) (listed.setIfInBounds i true) (a.put o.dst v) w'
    rw[<-bh]
    exact ih _ _ _ ad ae (.inr ⟨(ac i).2 (.inl rfl),hz⟩) ((ag.put ht ho ah).congr (fun _ _ _=>rfl) (fun j _=>(ac j).symm))
   subst he
   exact hQ ch _ w' ag.defers hz
  ·rw[if_pos hw]
   left
   obtain⟨w',hr,hg⟩:=hy w bd
   unfold Oper.wp
   rw[ex]
   rcases hr with hr|⟨hr,hv⟩
   ·rw[hr];exact next hip w' hg
   rw[hr,Oper.upon_skip,<-hv];exact next hip w' hg
  rw[hw]
  simp only[bV,if_false]
  rw[<-hv]
  exact next hip w (Below.refl _ _)
theorem kQ{id:Nat}{Q:Exit->Act->World->Prop}{a:Act}{w:World}{l:List Oper}(n p:Nat)(D:Nat->Prop)(v:Value)(T:World->Prop)(Z:List PanicEntry->World->Prop)(hm:P.follows .mixedOrders=true)(hB:lO l.toArray n=true)(hp:p<n)
  (hT:∀w w',T w->Below w.heap.size w w'->T w') (hQ:∀ch a' w',a'.defers=a.defers->Z ch w'->Q (.panic ch) a' w') (h:jO P l.toArray w p D v T Z (wpList P l.toArray Q (l.drop n)) (l.take n) 0 a):(Code.region id l.toArray true).wp P Q a w:=by
 have ad:=hB;simp only[lO,aK,cR,decide_eq_true_eq,beq_iff_eq]at hB;obtain⟨⟨⟨⟨⟨hsel,hn⟩,hed⟩,ht⟩,hsc⟩,hseq⟩:=hB;have hn':n<=l.length:=by simpa using hn
 obtain⟨vals,-,ac,aa⟩:=aLA (P:=P) (ops:=l.toArray) ht (l.take n) 0 a (fun _=>undef) (fun j hj=>by
  have hj':j<n:=by simp at hj;omega
  simp[hj']) (by simp;omega) (Fr.start fun j _ hj=>by omega) h
 refine wp_region_any hm ?_;have ab:HeadInv .any l.toArray n (Array.replicate l.toArray.size false):=
  ⟨by simp,fun j oj _ hl=>(by rw[getD_replicate_false]at hl;cases hl),fun t _ ht=>getD_in (by simpa using ht) (getD_replicate_false _ _)⟩
 have hc:∀m,m<=l.toArray.size->cnt (Array.replicate l.toArray.size false) m=m:=by
  intro m;induction m with
  | zero=>intro _;rfl
  | succ m ih=>
   intro hm
   have:(Array.replicate l.toArray.size false).getD m true=false:=getD_in (by simp at hm⊢;omega) (getD_replicate_false _ _)
   simp only[cnt]
   rw[ih (by omega),this]
   simp
 have:=aI5 (P:=P) (Q:=Q) (tail:=l.drop n) ad hp (fun j=>by simp[bU]) hT (fun j o ho hj=>ac j o ho (aL _) hj) aa hQ n (Array.replicate l.toArray.size false) a w.drew ab (hc n hn) (.inl ⟨getD_in (by simp;omega) (getD_replicate_false _ _),(Below.refl _ w).drew⟩)
  (Fr.start fun j _ hl=>by rw[getD_replicate_false]at hl;cases hl)
 rw[show n+(l.toArray.size - n)=l.toArray.size by omega]at this;exact this
end
end Go.Proofs.YtagabiidbbhhmaaGreat
