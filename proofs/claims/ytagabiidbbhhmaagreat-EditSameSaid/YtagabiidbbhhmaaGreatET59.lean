/- Part 59. -/
import Derived.Test.YtagabiidbbhhmaaGreatET57
import Derived.Test.YtagabiidbbhhmaaGreatET55
namespace Go.Proofs.YtagabiidbbhhmaaGreat
set_option maxHeartbeats 6400000
set_option linter.all false
set_option maxRecDepth 100000
section
open Go.RowKit
section
variable {P:Program} {ops:Array Oper}
def Oper.links(P:Program)(o:Oper)(a:Act)(w:World)(v:Value)(J:World->Prop)(Z:List PanicEntry->World->Prop):Prop:=
 (∃w',((execOp a.eval o).run P w=.ok (.value v) w'\/((execOp a.eval o).run P w=.ok .skip w'/\v=undef))/\J w')\/
 ∃f args,(execOp a.eval o).run P w=.ok (.enter f args) w/\Calls P f args w fun e w'=>(e=.returned v/\J w')\/∃ch,e=.panicked ch/\Z ch w'
def aJB(ops:Array Oper)(n:Nat)(ps:List Nat):Bool:=(ps.all fun p=>decide (p<n))&&decide ps.Nodup&&(List.range (ps.length - 1)).all fun j=>jU ops (ps.getD (j+1) 0) (ps.getD j 0)
def kZ(P:Program)(ops:Array Oper)(ps:List Nat)(v:Nat->Value)(J:Nat->World->Prop)(Z:List PanicEntry->World->Prop)(L:Act->World->Prop):List Oper->Nat->Act->Prop
 | [],_,a=>∀w',J ps.length w'->L a w'
 | o :: rest,k,a=>
  if k∈ps then (Region.wanted o (yielded ops a.tmps)=true/\∀i w',ps[i]? =some k->J i w'->Oper.links P o a w' (v k) (J (i+1)) Z)/\kZ P ops ps v J Z L rest (k+1) (a.put o.dst (v k))
  else if Region.wanted o (yielded ops a.tmps) then ∃u,(∀i w',J i w'->Oper.yields P o a w' u)/\kZ P ops ps v J Z L rest (k+1) (a.put o.dst u)
  else kZ P ops ps v J Z L rest (k+1) (a.put o.dst undef)
section
variable {ps:List Nat} {v:Nat->Value} {J:Nat->World->Prop} {Z:List PanicEntry->World->Prop} {L:Act->World->Prop} {o:Oper} {rest:List Oper} {k:Nat} {a:Act}
theorem kZ.val{u:Value}(hk:k∉ps)(hg:Region.wanted o (yielded ops a.tmps)=true)(hy:∀i w',J i w'->(execOp a.eval o).run P w'=.ok (.value u) w')(h:kZ P ops ps v J Z L rest (k+1) (a.put o.dst u)):kZ P ops ps v J Z L (o :: rest) k a:=by simp only[kZ,hg,if_true,if_neg hk];exact⟨u,fun i w' h1=>⟨w',.inl (hy i w' h1),Below.refl _ _⟩,h⟩
theorem kZ.skip(hk:k∉ps)(hg:Region.wanted o (yielded ops a.tmps)=false)(h:kZ P ops ps v J Z L rest (k+1) (a.put o.dst undef)):kZ P ops ps v J Z L (o :: rest) k a:=by simp only[kZ,hg,if_neg hk];exact h
theorem kZ.turn(i:Nat)(hk:ps[i]? =some k)(hn:ps.Nodup)(hv:v k=undef)(hg:Region.wanted o (yielded ops a.tmps)=true)(hy:∀w',J i w'->∃w'',(execOp a.eval o).run P w'=.ok .skip w''/\J (i+1) w'')
  (h:kZ P ops ps v J Z L rest (k+1) (a.put o.dst undef)):kZ P ops ps v J Z L (o :: rest) k a:=by
 simp only[kZ,if_pos (aG hk)];refine⟨⟨hg,fun j w' hj hw=> ?_⟩,by rw[hv];exact h⟩;have:j=i:=by obtain⟨h1,h2⟩:=aD.1 hk;obtain⟨h3,h4⟩:=aD.1 hj;exact(dP hn).1 (by rw[h2,h4])
 subst this;obtain⟨w'',h1,h2⟩:=hy w' hw;exact .inl ⟨w'',.inr ⟨h1,hv⟩,h2⟩
theorem kZ.call(i:Nat){f:FuncId}{args:Array Value}(hk:ps[i]? =some k)(hn:ps.Nodup)(hg:Region.wanted o (yielded ops a.tmps)=true)(hrun:∀w':World,(execOp a.eval o).run P w'=.ok (.enter f args) w')
  (hy:∀w',J i w'->Calls P f args w' fun e w''=>(e=.returned (v k)/\J (i+1) w'')\/∃ch,e=.panicked ch/\Z ch w'')
  (h:kZ P ops ps v J Z L rest (k+1) (a.put o.dst (v k))):kZ P ops ps v J Z L (o :: rest) k a:=by
 simp only[kZ,if_pos (aG hk)];refine⟨⟨hg,fun j w' hj hw=> ?_⟩,h⟩;have:j=i:=by obtain⟨h1,h2⟩:=aD.1 hk;obtain⟨h3,h4⟩:=aD.1 hj;exact(dP hn).1 (by rw[h2,h4])
 subst this;exact .inr ⟨f,args,hrun w',hy w' hw⟩
end
def aJC(P:Program)(ops:Array Oper)(ps:List Nat)(v:Nat->Value)(J:Nat->World->Prop)(Z:List PanicEntry->World->Prop)(o:Oper)(k:Nat)(a:Act)(u:Value):Prop:=
 (k∈ps/\u=v k/\Region.wanted o (yielded ops a.tmps)=true/\∀i w',ps[i]? =some k->J i w'->Oper.links P o a w' (v k) (J (i+1)) Z)\/
 (k∉ps/\Region.wanted o (yielded ops a.tmps)=true/\∀i w',J i w'->Oper.yields P o a w' u)\/
 (k∉ps/\Region.wanted o (yielded ops a.tmps)=false/\u=undef)
theorem aLG{n:Nat}{ps:List Nat}{v:Nat->Value}{J:Nat->World->Prop}{Z:List PanicEntry->World->Prop}{L:Act->World->Prop}{a0:Act}(ht:nN ops n=true):
  ∀(l:List Oper) (k:Nat) (a:Act) (v0:Nat->Value),(∀j,j<l.length->ops[k+j]? =l[j]?)->k+l.length=n->Fr ops n a0 v0 (· <k) a->kZ P ops ps v J Z L l k a->
   ∃vals:Nat->Value,(∀j,j<k->vals j=v0 j)/\(∀j o,ops[j]? =some o->k<=j->j<n->∃b,Fr ops n a0 vals (· <j) b/\aJC P ops ps v J Z o j b (vals j))/\
    ∃b,Fr ops n a0 vals (· <n) b/\∀w',J ps.length w'->L b w'
 | [],k,a,v0,_,hk,hf,h=>by
  have ag:k=n:=by simpa using hk
  subst ag;exact⟨v0,fun _ _=>rfl,fun j o _ h1 h2=>by omega,a,hf,h⟩
 | o :: rest,k,a,v0,hl,hk,hf,h=>by
  simp only[bI]at hk;have ho:ops[k]? =some o:=by simpa using hl 0 (by simp)
  have ac:∀j,j<rest.length->ops[k+1+j]? =rest[j]?:=fun j hj=>by have:=hl (j+1) (by simp;omega);simpa [Nat.add_assoc,Nat.add_comm 1 j]using this
  have ad:∃u,aJC P ops ps v J Z o k a u/\kZ P ops ps v J Z L rest (k+1) (a.put o.dst u):=by
   simp only[kZ]at h;by_cases hkp:k∈ps
   ·rw[if_pos hkp]at h;exact⟨v k,.inl ⟨hkp,rfl,h.1.1,h.1.2⟩,h.2⟩
   rw[if_neg hkp]at h;by_cases hw:Region.wanted o (yielded ops a.tmps)=true
   ·simp only[hw,if_true]at h;obtain⟨u,h2,h3⟩:=h;exact⟨u,.inr (.inl ⟨hkp,hw,h2⟩),h3⟩
   simp only[eA]at hw;simp only[hw,bV,if_false]at h;exact⟨undef,.inr (.inr ⟨hkp,hw,rfl⟩),h⟩
  obtain⟨u,hs,hg⟩:=ad;let v1:Nat->Value:=fun j=>if j=k then u else v0 j
  have e1:∀j,j<k->v1 j=v0 j:=fun j hj=>by simp only[v1];rw[if_neg (by omega)]
  have ek:v1 k=u:=by simp[v1]
  have aa:Fr ops n a0 v1 (· <k) a:=hf.congr (fun j _ hj=>(e1 j hj).symm) (fun _ _=>Iff.rfl);have ab:=aa.put ht ho (by omega);rw[ek]at ab;have ae:Fr ops n a0 v1 (· <k+1) (a.put o.dst u):=ab.congr (fun _ _ _=>rfl) (fun j _=>by omega);obtain⟨vals,hv,af,hd⟩:=aLG ht rest (k+1) _ v1 ac (by omega) ae hg;refine⟨vals,fun j hj=>(hv j (by omega)).trans (e1 j hj),fun j oj hj hkj hjn=> ?_,hd⟩;by_cases hjk:j=k
  ·subst hjk;rw[ho]at hj
   cases hj;refine⟨a,aa.congr (fun i _ hi=>(hv i (by omega)).symm) (fun _ _=>Iff.rfl), ?_⟩;rw[hv j (by omega),ek];exact hs
  exact af j oj hj (by omega) hjn
theorem aDV{n:Nat}{ps:List Nat}{v:Nat->Value}{J:Nat->World->Prop}{Z:List PanicEntry->World->Prop}{Q:Exit->Act->World->Prop}{tail:List Oper}{a0:Act}(hB:lO ops n=true)(hps:aJB ops n ps=true){vals:Nat->Value}
  (htail:∀j,tail[j]? =ops[n+j]?) (hT:∀i w w',J i w->Below w.heap.size w w'->J i w')
  (hst:∀j o,ops[j]? =some o->j<n->∃b,Fr ops n a0 vals (· <j) b/\aJC P ops ps v J Z o j b (vals j)) (hdone:∃b,Fr ops n a0 vals (· <n) b/\∀w',J ps.length w'->wpList P ops Q tail b w') (hQ:∀ch a' w',a'.defers=a0.defers->Z ch w'->Q (.panic ch) a' w'):
  ∀(m:Nat) (listed:Array Bool) (a:Act) (w:World),HeadInv .any ops n listed->cnt listed n=m->
   (∃i,i<=ps.length/\(∀j p,ps[j]? =some p->(listed.getD p false=true↔j<i))/\J i w)->Fr ops n a0 vals (fun j=>listed.getD j false=true) a->wpAny P .any ops Q (m+(ops.size - n)) listed a w:=by
 unfold aJB at hps;simp only[aK,decide_eq_true_eq,aY]at hps;obtain⟨⟨bp,bm⟩,bl⟩:=hps;simp only[lO,aK,cR,decide_eq_true_eq,beq_iff_eq]at hB;obtain⟨⟨⟨⟨⟨ar,hn⟩,bd⟩,ht⟩,bq⟩,aq⟩:=hB;intro m;induction m with
 | zero=>
  intro listed a w ab ak ax ah
  have am:tail.length=ops.size - n:=by
   apply eU
   ·by_cases hle:tail.length<=ops.size - n
    ·exact hle
    have h1:=htail (ops.size - n);rw[bH (by omega)]at h1;have:=dS.1 h1;omega
   by_cases hle:ops.size - n<=tail.length
   ·exact hle
   have h1:=htail tail.length;rw[aS (aC _)]at h1;have:=cZ.1 h1.symm;omega
  have hl:∀j,j<n->listed.getD j false=true:=fun j hj=>gQ (lN n ak j hj) (by rw[ab.size];omega)
  have ap:listed=gZ ops.size n:=by
   apply dV;intro j;by_cases hj:j<ops.size
   ·have e2:(gZ ops.size n)[j]? =some (decide (j<n)):=by simp[gZ,hj]
    rw[e2];by_cases hjn:j<n
    ·have:=hl j hjn;rw[bR]at this
     cases hx:listed[j]? with
     | none=>rw[hx]at this;cases this
     | some b=>rw[hx]at this;simp at this;rw[this,decide_eq_true hjn]
    have:=ab.tail j (by omega) hj;rw[bR]at this
    cases hx:listed[j]? with
    | none=>rw[hx]at this;cases this
    | some b=>rw[hx]at this;simp at this;rw[this,decide_eq_false hjn]
   rw[bH (by rw[ab.size];omega),bH (by simp[gZ];omega)]
  have br:J ps.length w:=by
   obtain⟨i,hi,bo,hJ⟩:=ax;by_cases e:i=ps.length
   ·rw[<-e];exact hJ
   have bb:i<ps.length:=by omega
   have h1:=bo i _ (aA bb);have h2:=h1.1 (hl _ (bp _ (dD bb)));omega
  obtain⟨b,bh,bg⟩:=hdone
  have bf:a=b:=ah.eq bh fun j hj=>⟨fun _=>hj,fun _=>hl j hj⟩
  subst bf
  have:=wpAny_of_seq (md:=.any) (Q':=Q) tail n listed a w htail (by rw[ap,am];exact aq) (bg w br)
  rw[am]at this
  rw[bM]
  exact this
 | succ m ih=>
  intro listed a w ab ak ax ah
  rw[show m+1+(ops.size - n)=(m+(ops.size - n))+1 by omega]
  obtain⟨k0,bc,az,aj⟩:=lV (listed:=listed) n (by omega)
  have aa:k0∈Region.ready .any ops listed:=by refine mem_ready.2 ⟨az,ops[k0],bE (by omega),fun e he hbi=> ?_⟩;have:=kC bd bc (bE (by omega)) he hbi;exact gQ (aj _ this) (by rw[ab.size];omega)
  refine⟨fun h0=>(by rw[h0]at aa;cases aa),fun i hi=> ?_⟩
  have ag:i<n:=by
   rcases dW i n with h|h
   ·exact h
   rcases bq with h1|h1
   ·obtain⟨_,o,ho,_⟩:=mem_ready.1 hi;have:=(aQ.1 ho).1;omega
   by_cases hns:n<ops.size
   ·exact absurd hi (tail_waits h1.1 h1.2 hns ab _ k0 rfl bc az i h)
   obtain⟨_,o,ho,_⟩:=mem_ready.1 hi;have:=(aQ.1 ho).1;omega
  obtain⟨ba,o,ho,ae⟩:=mem_ready.1 hi
  have af:=ab.set hi ag
  have ad:cnt (listed.setIfInBounds i true) n=m:=by have:=(oU (by rw[ab.size];omega) ba n).2 ag;omega
  have ac:∀j,(listed.setIfInBounds i true).getD j false=true↔(j=i\/listed.getD j false=true):=fun j=>by
   by_cases e:i=j
   ·subst e;have:i<listed.size:=by rw[ab.size];omega
    simp[this]
   rw[getD_set_ne false e];exact⟨fun h=>.inr h,fun h=>h.resolve_left (fun e'=>e e'.symm)⟩
  obtain⟨b,bn,al⟩:=hst i o ho ag
  have ao:∀d,d∈o.looksAt ops->a.tmps[d]? =b.tmps[d]?:=fun d hd=>Fr.same ht ah bn ho ag (fun j hj he hji=>by
   obtain⟨oj,hoj,e,hem,hbi,hon⟩:=iE he;rw[ho]at hoj
   cases hoj;exact⟨by rw[<-hon];exact ae e hem hbi,hji,rfl⟩) d hd
  obtain⟨ex,ew⟩:=kN (ops:=ops) (o:=o) (fun cs b=>Region.noSelect_spec ar i o cs b ho) ao
  obtain⟨c,hc,ai,hJ⟩:=ax
  have next:i∉ps->∀(w':World),Below w.heap.size w w'->wpAny P .any ops Q (m+(ops.size - n)) (listed.setIfInBounds i true) (a.put o.dst (vals i)) w':=fun hip w' hg=>by refine ih _ _ _ af ad ⟨c,hc,fun j p hj=> ?_,hT c w w' hJ hg⟩ ((ah.put ht ho ag).congr (fun _ _ _=>rfl) (fun j _=>(ac j).symm));have be:p≠i:=fun e=>hip (by rw[<-e];exact aG hj);rw[ac p];exact⟨fun h=>(ai j p hj).1 (h.resolve_left be),fun h=>.inr ((ai j p hj).2 h)⟩
  unfold wpOp
  simp only[ho]
  rw[ew]
  rcases al with⟨hip,ay,hw,hy⟩|⟨hip,hw,hy⟩|⟨hip,hw,hv⟩
  ·rw[if_pos hw]
   left
   obtain⟨q,hq⟩:=bP hip
   have hql:=(aD.1 hq).1
   have bj:q=c:=by
    have h1:¬q<c:=fun h=>by have:=(ai q i hq).2 h;rw[getD_both ba]at this;cases this
    refine eU (Classical.byContradiction fun h2=> ?_) (by omega);have hpos:0<q:=by omega
    have bk:ps[q - 1]? =some (ps.getD (q - 1) 0):=by rw[aH,aA (by omega)];rfl
    have he:=bl (q - 1) (bQ.2 (by omega));rw[show q - 1+1=q by omega]at he;have bi:ps.getD q 0=i:=by rw[aH,hq];rfl
    rw[bi]at he;obtain⟨oj,hoj,e,hem,hbi,hon⟩:=iE he;rw[ho]at hoj
    cases hoj;have h3:=ae e hem hbi;rw[hon]at h3;have:=(ai (q - 1) _ bk).1 h3;omega
   subst bj
   have aw:∀w',J (q+1) w'->wpAny P .any ops Q (m+(ops.size - n)) (listed.setIfInBounds i true) (a.put o.dst (vals i)) w':=fun w' hJ'=>by
    refine ih _ _ _ af ad ⟨q+1,by omega,fun j p hj=> ?_,hJ'⟩ ((ah.put ht ho ag).congr (fun _ _ _=>rfl) (fun j _=>(ac j).symm));rw[ac p];constructor
    ·intro h;rcases h with h|h
     ·have:j=q:=by obtain⟨h1,h2⟩:=aD.1 hj;obtain⟨h3,h4⟩:=aD.1 hq;exact(dP bm).1 (by rw[h2,h4,h])
      omega
     have:=(ai j p hj).1 h;omega
    intro h;by_cases e:j=q
    ·subst e;rw[hq]at hj;injection hj with hj;exact .inl hj.symm
    exact .inr ((ai j p hj).2 (by omega))
   rcases hy q w hq hJ with⟨w',hr,hJ'⟩|⟨f,args,hr,an⟩
   ·unfold Oper.wp
    rw[ex]
    rcases hr with hr|⟨hr,hv⟩
    ·rw[hr,<-ay];exact aw w' hJ'
    rw[hr,Oper.upon_skip,<-hv,<-ay];exact aw w' hJ'
   unfold Oper.wp
   rw[ex,hr,Oper.upon_enter]
   refine an.mono fun e w' hz=> ?_
   rcases hz with⟨he,hz⟩|⟨ch,he,hz⟩
   ·subst he
    show wpAny P .any ops Q (m+(ops.size - n)) (listed.setIfInBounds i true) (a.put o.dst (v i)) w'
    rw[<-ay]
    exact aw w' hz
   subst he
   exact hQ ch _ w' ah.defers hz
  ·rw[if_pos hw]
   left
   obtain⟨w',hr,hg⟩:=hy c w hJ
   unfold Oper.wp
   rw[ex]
   rcases hr with hr|⟨hr,hv⟩
   ·rw[hr];exact next hip w' hg
   rw[hr,Oper.upon_skip,<-hv];exact next hip w' hg
  rw[hw]
  simp only[bV,if_false]
  rw[<-hv]
  exact next hip w (Below.refl _ _)
theorem rM{id:Nat}{Q:Exit->Act->World->Prop}{a:Act}{w:World}{l:List Oper}(n:Nat)(ps:List Nat)(v:Nat->Value)(J:Nat->World->Prop)(Z:List PanicEntry->World->Prop)(hm:P.follows .mixedOrders=true)(hB:lO l.toArray n=true)(hps:aJB l.toArray n ps=true)
  (hT:∀i w w',J i w->Below w.heap.size w w'->J i w') (hJ:J 0 w) (hQ:∀ch a' w',a'.defers=a.defers->Z ch w'->Q (.panic ch) a' w') (h:kZ P l.toArray ps v J Z (wpList P l.toArray Q (l.drop n)) (l.take n) 0 a):(Code.region id l.toArray true).wp P Q a w:=by
 have ad:=hB;simp only[lO,aK,cR,decide_eq_true_eq,beq_iff_eq]at hB;obtain⟨⟨⟨⟨⟨hsel,hn⟩,hed⟩,ht⟩,hsc⟩,hseq⟩:=hB;have hn':n<=l.length:=by simpa using hn
 obtain⟨vals,-,ac,aa⟩:=aLG (P:=P) (ops:=l.toArray) ht (l.take n) 0 a (fun _=>undef) (fun j hj=>by
  have hj':j<n:=by simp at hj;omega
  simp[hj']) (by simp;omega) (Fr.start fun j _ hj=>by omega) h
 refine wp_region_any hm ?_;have ab:HeadInv .any l.toArray n (Array.replicate l.toArray.size false):=
  ⟨by simp,fun j oj _ hl=>(by rw[getD_replicate_false]at hl;cases hl),fun t _ ht=>getD_in (by simpa using ht) (getD_replicate_false _ _)⟩
 have hc:∀m,m<=l.toArray.size->cnt (Array.replicate l.toArray.size false) m=m:=by
  intro m;induction m with
  | zero=>intro _;rfl
  | succ m ih=>
   intro hm
   have:(Array.replicate l.toArray.size false).getD m true=false:=getD_in (by simp at hm⊢;omega) (getD_replicate_false _ _)
   simp only[cnt]
   rw[ih (by omega),this]
   simp
 have:=aDV (P:=P) (Q:=Q) (tail:=l.drop n) ad hps (fun j=>by simp[bU]) hT (fun j o ho hj=>ac j o ho (aL _) hj) aa hQ n (Array.replicate l.toArray.size false) a w.drew ab (hc n hn) ⟨0,aL _,fun j p _=>⟨fun hl=>(by rw[getD_replicate_false]at hl;cases hl),fun h=>(by omega)⟩,hT 0 w w.drew hJ (Below.refl _ w).drew⟩
  (Fr.start fun j _ hl=>by rw[getD_replicate_false]at hl;cases hl)
 rw[show n+(l.toArray.size - n)=l.toArray.size by omega]at this;exact this
end
def aLH(w:World)(b1 b2 bm:Nat)(h v t:Int)(a0 a1 a2 a3 a4 a5 a6 a7 a8 a9 a10 a11:Value)(i:Nat)(W:World):Prop:=
 Box W b1 #[.pointer (some ⟨bm,0,none⟩)]/\Box W b2 #[.int .i64 h,.int .i64 v,.int .i64 t]/\Box W bm #[if 0<i then .int .i64 h else a0,if 1<i then .int .i64 v else a1,a2,a3,a4,a5,a6,a7,a8,a9,a10,a11]/\Off (Foot.one bm) w W
theorem aLI{w:World}{b1 bm:Nat}{h v t:Int}{a0 a1 a2 a3 a4 a5 a6 a7 a8 a9 a10 a11:Value}(h1:Box w b1 #[.pointer (some ⟨bm,0,none⟩)])(hM:Box w bm #[a0,a1,a2,a3,a4,a5,a6,a7,a8,a9,a10,a11])(hne:b1≠bm):
  CallsD Tryz.prog 94 #[.pointer (some ⟨b1,0,none⟩)] (.panicking [{ v:=.iface 161 (.agg #[.int .i64 h,.int .i64 v,.int .i64 t]),recovered:=false }]) w fun e u' w'=>
   e=.returned (.tuple #[])/\u'=.panicking [{ v:=.iface 161 (.agg #[.int .i64 h,.int .i64 v,.int .i64 t]),recovered:=true }]/\Box w' bm #[.int .i64 h,.int .i64 v,.int .i64 t,a3,a4,a5,a6,a7,a8,a9,a10,a11]/\Off (Foot.one bm) w w':=by
 have ac:∀(a:Array Value) (w:World),(Instr.typeAssert (.iface 161 (.agg a)) 20 161 true).run Tryz.prog w=.ok (.tuple #[.agg a,.bool true]) w:=fun a w=>by kernel_rfl
 refine callsD_of_wpS Tryz.func94 rfl fun c₀ cs hu=> ?_;have H1:=h! h1;have HM:=h! hM;have N1:=h! hne;clear h1 hM hne;apply wpS_seq;apply wpS_region;simp[wpOpsS,go_sem,recoverD,hu,Tryz.ntmps94,Exit.thenS,Array.replicate,List.replicate];refine wpS_of_wp ?_;go_upto_region 4 with(fail);clear ac hu;have af:=h! (H1.alloc (.cells #[.int .i64 h,.int .i64 v,.int .i64 t] 161));have ag:=h! (HM.alloc (.cells #[.int .i64 h,.int .i64 v,.int .i64 t] 161));have ab:=h! (Box.new w #[.int .i64 h,.int .i64 v,.int .i64 t] 161);have ad:Hid (Off (Foot.one bm) w (w.alloc (.cells #[.int .i64 h,.int .i64 v,.int .i64 t] 161))):=h! (Off.alloc _ _ _);have ae:=HM.lt;obtain⟨b2,aa⟩:∃b2,b2=w.heap.size:=⟨_,rfl⟩;have N2:Hid (b2≠bm):=h! (by omega);rw[<-aa]at ab⊢;generalize w.alloc (.cells #[.int .i64 h,.int .i64 v,.int .i64 t] 161)=w1 at*;clear aa ae;refine rM 17 [12,16] (fun _=>undef) (aLH w b1 b2 bm h v t a0 a1 a2 a3 a4 a5 a6 a7 a8 a9 a10 a11) (fun _ _=>False) (by kernel_rfl) (by kernel_rfl) (by kernel_rfl) (fun i W W' hJ hb=> ?_) ?_ (fun _ _ _ _ hz=>hz.elim) ?_
 ·obtain⟨k1,k2,k3,k4⟩:=hJ;exact⟨k1.later hb,k2.later hb,k3.later hb,k4.trans (Off.of_below hb _)⟩
 ·exact⟨af.out,ab.out,ag.out,ad.out⟩
 simp only[aP,aU,aR,aV];iterate 12 ((refine kZ.val (u:= ?_) (by decide) rfl (fun i wg hJ=> ?_) ?_);(rotate_left);(focus(obtain⟨⟨l1,c1,f1⟩,⟨l2,c2,f2⟩,-,-⟩:=hJ;first|(go_simp;done)|(go_simp;with_reducible rfl)));(simp only[Act.put,aB,aE,aF]))
 refine kZ.turn 0 rfl (by decide) rfl rfl (fun wg hJ=> ?_) ?_
 ·obtain⟨h1,h2,h3,h4⟩:=hJ;have hX:=h! (And.intro h1 (And.intro h2 (And.intro h3 h4)));obtain⟨lm,cm,fm⟩:=h3;refine⟨wg.setCell ⟨bm,0,none⟩ (.int .i64 h), ?_, ?_⟩
  ·clear h1 h2 h4;first|(go_simp;done)|(go_simp;with_reducible rfl)
  obtain⟨h1,h2,h3,h4⟩:=hX.out;refine⟨h1.other (p:=⟨bm,0,none⟩) _ N1.out,h2.other (p:=⟨bm,0,none⟩) _ N2.out,by simpa using h3.set 0 (.int .i64 h),h4.trans (Off.set wg ⟨bm,0,none⟩ _)⟩
 simp only[Act.put,aB,aE,aF];iterate 3 ((refine kZ.val (u:= ?_) (by decide) rfl (fun i wg hJ=> ?_) ?_);(rotate_left);(focus(obtain⟨⟨l1,c1,f1⟩,⟨l2,c2,f2⟩,-,-⟩:=hJ;first|(go_simp;done)|(go_simp;with_reducible rfl)));(simp only[Act.put,aB,aE,aF]))
 refine kZ.turn 1 rfl (by decide) rfl rfl (fun wg hJ=> ?_) ?_
 ·obtain⟨h1,h2,h3,h4⟩:=hJ;have hX:=h! (And.intro h1 (And.intro h2 (And.intro h3 h4)));obtain⟨lm,cm,fm⟩:=h3;refine⟨wg.setCell ⟨bm,1,none⟩ (.int .i64 v), ?_, ?_⟩
  ·clear h1 h2 h4;first|(go_simp;done)|(go_simp;with_reducible rfl)
  obtain⟨h1,h2,h3,h4⟩:=hX.out;refine⟨h1.other (p:=⟨bm,1,none⟩) _ N1.out,h2.other (p:=⟨bm,1,none⟩) _ N2.out,by simpa using h3.set 1 (.int .i64 v),h4.trans (Off.set wg ⟨bm,1,none⟩ _)⟩
 simp only[Act.put,aB,aE,aF];rintro w9 ⟨k1,k2,k3,k4⟩;have K3:=h! k3;have K4:=h! k4;simp only[bI,dA]at k3;obtain⟨lm,cm,fm⟩:=k3;clear k1 k2 k4;go_wp2;have KB:Hid (Box (w9.setCell ⟨bm,2,none⟩ (.int .i64 t)) bm #[.int .i64 h,.int .i64 v,.int .i64 t,a3,a4,a5,a6,a7,a8,a9,a10,a11]):=h! (by simpa using K3.set 2 (.int .i64 t));have KO:Hid (Off (Foot.one bm) w (w9.setCell ⟨bm,2,none⟩ (.int .i64 t))):=h! (K4.trans (Off.set w9 ⟨bm,2,none⟩ _));clear lm cm fm;generalize w9.setCell ⟨bm,2,none⟩ (.int .i64 t)=w10 at*;simp[bodyPostS,results,Tryz.results94];trace_state;exact⟨KB.out,KO.out⟩
theorem MachP.over{base bs fuel:Nat}{W W':World}{bm:Nat}{s:RunS}{o:OverD}{ov av vv cv:Value}{mv:Nat}{m:List (Int×Value)}{F:Nat->Foot}(h:MachP base bs fuel W bm s ⟨0,0,0⟩ ov av vv cv mv m F)(ho:Off (Foot.one bm) W W')
  (hb:Box W' bm #[.int .i64 o.how,.int .i64 o.value,.int .i64 o.trap,ov,av,.int .i64 s.steps,.int .i64 s.checks,vv,.pointer (some ⟨bs,0,none⟩),.int .i64 fuel,.map (some mv),cv]):MachP base bs fuel W' bm s o ov av vv cv mv m F:=by
 have aa:∀j,j≠0->(F j).off (Foot.one bm):=fun j hj k hk e=>h.apart j 0 hj k hk ((h.b0 k).2 e);exact⟨hb,h.b0,h.out.off ho (aa 1 (by omega)),h.arr.off OLis.nice ho (aa 2 (by omega)),h.vis.off ho (aa 3 (by omega)),h.mp.keep (ho.block _ h.mp.lt (aa 4 (by omega) _ ((h.m4 _).2 rfl))),h.m4,h.val,h.cel.off ho (aa 5 (by omega)),h.v64,h.apart,h.six,h.base⟩
def stepsAt(W:World)(bm:Nat):Nat:=match W.cell? ⟨bm,5,none⟩with|some (.int _ n)=>n.toNat|_=>0
theorem Mach.stepsAt{base bs fuel:Nat}{W:World}{bm:Nat}{D:Foot}{s:RunS}(h:Mach base bs fuel W bm D s):stepsAt W bm=s.steps:=by obtain⟨_,_,_,_,_,_,_,hP,_⟩:=h;unfold Go.Proofs.YtagabiidbbhhmaaGreat.stepsAt;rw[hP.box.at 5 rfl];simp
def aLJ(f:FuncD)(base bs fuel:Nat)(w:World)(bm:Nat)(D:Foot)(s:RunS)(e:Ending)(w':World):Prop:=
 ∃(o:OverD) (s':RunS) (ov av vv cv:Value) (mv:Nat) (m:List (Int×Value)) (F:Nat->Foot),e=.returned (.tuple #[])/\Runs f fuel (-1) 0 s o s'/\MachP base bs fuel w' bm s' o ov av vv cv mv m F/\Off D w w'/\∀i k,F i k->D k\/w.heap.size<=k
theorem aLK{base bs fuel bm:Nat}{w:World}{D:Foot}{s:RunS}{f:FuncD}(hM:Mach base bs fuel w bm D s)(hB:base<=w.heap.size)(hE:Env f base w bs)(hc:fO f=0)(hF:gE f 0 0)(hfu:fuel<=200000)(hG:GoodS f fuel s)(hV:∀n∈s.visits,n<=s.steps+1):
  Calls Tryz.prog 56 #[.pointer (some ⟨bm,0,none⟩)] w (aLJ f base bs fuel w bm D s):=by
 have hmf:∀(fn:Fn) (first cap:Array Value) (w:World),(Instr.makeFunc fn first cap).run Tryz.prog w=.ok (.func fn first cap) w:=fun _ _ _ _=>rfl;have HM:=h! hM;have HB:=h! hB;have HE:=h! hE;have HC:=h! hc;have HF:=h! hF;have HG:=h! hG;have HV:=h! hV;have bi:=hM.lt;have bw:=h! bi;clear hM hB hE hc hF hG hV bi;go_enter_defers Tryz.func56,Tryz.ntmps56;go_wp2_with fail;go_loopw [2,3] (fun fr at_ wr=>∃(src:Int) (a:Nat) (s1:RunS),fr=.int .i64 src/\at_=.int .i64 a/\In f src a/\(∀o s',Runs f fuel src a s1 o s'->Runs f fuel (-1) 0 s o s')/\GoodS f fuel s1/\(∀n∈s1.visits,n<=s1.steps+1)/\∃D1,Mach base bs fuel wr bm D1 s1/\Off D w wr/\(∀k,D1 k->D k\/w.heap.size<=k)/\¬D1 w.heap.size/\Box wr w.heap.size #[.pointer (some ⟨bm,0,none⟩)]) (fun _ _ W=>fuel - stepsAt W bm)
 case atStart=>exact⟨-1,0,s,rfl,rfl,.inl ⟨rfl,rfl⟩,fun _ _ h=>h,HG.out,HV.out,D,HM.alloc _,Off.alloc _ _ _,fun k h=>.inl h,fun h=>by have:=bw.out _ h;omega,Box.new _ _ _⟩
 case round=>
  obtain⟨src,a,s1,rfl,rfl,ag,bg,aq,ar,D1,ay,af,az,be,aw⟩:=hrel;have ak:=ag.lt HC.out;obtain⟨x,hx⟩:∃x,f.blocks[a]? =some x:=⟨_,aA ak⟩;have bl:=h! ag;have bj:=h! bg;have bf:=h! aq;have bv:=h! ar;have bh:=h! ay;have ad:=h! af;have aj:=h! az;have ai:=h! be;have B1:=h! aw;have HX:=h! hx;have ba:=h! (ag.phis HC.out HF.out hx);have bp:Hid (Env f base wr bs):=h! (HE.later (af.below HB.out (fun k _ hk=>HM.base k hk)));have bq:base<=wr.heap.size:=aT HB.out af.size;have bt:Hid (∀n∈s1.visits,n<=1000000):=h! (fun n hn=>by have:=ar n hn;have:=aq.stp;omega);clear ag bg aq ar ay af az be aw hx ak;obtain⟨l1,c1,f1⟩:=B1.out;go_wp2_with fail;clear l1 c1 f1;refine(aMG bh.out bq bp.out HC.out hfu bf.out bt.out HX.out ba.out).mono ?_;rintro e w2 h9
  cases hbl:lD f fuel src a s1 with
  | over o s2=>
   rw[hbl]at h9
   obtain⟨rfl,D2,ah,ab,aa⟩:=h9
   have ap:Hid (Runs f fuel (-1) 0 s o s2):=h! (bj o s2 (Runs.over hbl))
   have B2:=h! (B1.off ab ai.out)
   have am:Hid (Off D w w2):=h! (Off.grow ad.out ab aj.out)
   have ae:Hid (∀k,D2 k->D k\/w.heap.size<=k):=h! (fun k hk=>by
    rcases aa k hk with h|h
    ·exact aj k h
    exact .inr (aT ad.size h))
   have ao:Hid (¬D2 w.heap.size):=h! (fun h=>(aa _ h).elim ai.out (fun h=>by have:=B1.lt;omega))
   obtain⟨ov,av,vv,cv,mv,m,F,hP,bk⟩:=ah
   have HP:=h! hP
   have an:=h! bk
   clear ab aa hP bk hbl
   unfold mC
   go_wp2
   refine leaves_cons (f:=94) (args:=#[.pointer (some ⟨w.heap.size,0,none⟩)]) (by simp) (by simp[go_sem]) ?_
   refine(aLI B2.out HP.box (fun e=>ao ((an _).2 ⟨0,(HP.b0 _).2 e⟩))).mono ?_
   rintro e u' w3 ⟨rfl,rfl,bb,bd⟩
   have bn:=h! bb
   have bc:=h! bd
   clear bb bd
   simp[Leaves,settle,results,Tryz.results56,go_sem]
   refine⟨o,s2,ov,av,vv,cv,mv,m,F,rfl,ap.out,HP.over bc.out bn.out,Off.grow am.out bc.out (fun k hk=>by cases hk;exact ae _ ((an _).2 ⟨0,(HP.b0 _).2 rfl⟩)),fun i k hk=>ae k ((an k).2 ⟨i,hk⟩)⟩
  | go to s2=>
   rw[hbl]at h9
   obtain⟨rfl,D2,ah,ab,aa⟩:=h9
   have ac:=zI HC.out bf.out HX.out ba.out hbl
   obtain⟨t,rfl,ht⟩:=ac.to
   have al:=h! ac
   have HT:=h! ht
   have bo:=h! hbl
   have B2:=h! (B1.off ab ai.out)
   have am:Hid (Off D w w2):=h! (Off.grow ad.out ab aj.out)
   have ae:Hid (∀k,D2 k->D k\/w.heap.size<=k):=h! (fun k hk=>by
    rcases aa k hk with h|h
    ·exact aj k h
    exact .inr (aT ad.size h))
   have ao:Hid (¬D2 w.heap.size):=h! (fun h=>(aa _ h).elim ai.out (fun h=>by have:=B1.lt;omega))
   have ax:=h! ah
   have br:Hid (∀n∈s2.visits,n<=s2.steps+1):=h! (fun n hn=>by
    rw[ac.visits]at hn;obtain⟨i,hi⟩:=bP hn;rw[List.getElem?_modify]at hi;have hs:=ac.steps
    cases hq:s1.visits[i]? with
    | none=>rw[hq]at hi;simp at hi
    | some q=>
     rw[hq]at hi
     have:=bv.out q (aG hq)
     simp at hi
     split at hi<;>omega)
   clear ab aa ah ac ht hbl
   have ak:a<f.blocks.length:=bl.lt HC.out
   go_wp2
   go_roundw
   case rel=>exact⟨a,t,s2,rfl,rfl,.inr ⟨a,rfl,ak,HT.out⟩,fun o s' h=>bj o s' (Runs.go bo.out (by simpa using h)),al.good,br.out,D2,ax.out,am.out,ae.out,ao.out,B2.out⟩
   rw[ax.stepsAt,bh.stepsAt]
   have:=al.steps
   have:=al.good.stp
   omega
end
section
open Go.RowKit
def sI(W:World)(v:Value)(i:InputD):Prop:=∃a b,v=.agg #[a,b]/\Ints W a i.args/\nA W b i.arrays
theorem sI.below{W W':World}{v:Value}{i:InputD}(h:sI W v i)(hb:Below W.heap.size W W'):sI W' v i:=by obtain⟨a,b,e,h1,h2⟩:=h;exact⟨a,b,e,h1.below hb,h2.below hb⟩
set_option maxHeartbeats 6400000 in
theorem aNH{w:World}{v:Value}{i:InputD}{n:Nat}(hv:sI w v i):Calls Tryz.prog 55 #[v,.int .i64 n] w (aIV ((i.arrays.getD n []).take 4096) w):=by
 obtain⟨a,b,rfl,-,hb⟩:=hv;obtain⟨vs,ab,cb,bb,ob,rfl,hc,hm,al,af,ac,ad⟩:=hb.parts;obtain⟨aa,ai⟩:∃aa,aa=i.arrays:=⟨_,rfl⟩;rw[<-ai]at af ac ad⊢;rw[<-ai]at hc al;obtain⟨l,hl⟩:∃l,l=aa.length:=⟨_,rfl⟩;rw[<-hl]at af ac ad hc al;rw[<-hl];clear hb ai;by_cases hlt:n<l
 ·have ht:decide ((l:Int)<=(n:Int))=false:=by simp;omega
  obtain⟨rfl,aw⟩:=af (by omega);have hx:=ac n hlt;have hi:=ad n hlt;obtain⟨ax,cx,am⟩:=hi.form;rw[am]at hx hi;obtain⟨xs,aq⟩:∃xs,xs=aa.getD n []:=⟨_,rfl⟩;rw[<-aq]at hx hi⊢;obtain⟨m,ah⟩:∃m,m=xs.length:=⟨_,rfl⟩;obtain⟨ax2,cx2,bx,ox,aj,ay,hcc,-,-⟩:=hi.parts
  cases aj;rw[<-ah]at hx hi ay;have HI:=h! hi;have ap:=h! ah;have ak:=hi.le;rw[<-ah]at ak;clear ac ad af hl aq am hi ah;go_enter Tryz.func55,Tryz.ntmps55;go_upto_region 1 with(fail);have ag:=(Below.refl w.heap.size w).alloc (aC _) (.cells #[a,.slice (some ⟨bb,ob,none⟩) l cb] 44);have HW:=h! ag;clear ag;have B2:=h! (Box.new w #[a,.slice (some ⟨bb,ob,none⟩) l cb] 44);generalize w.alloc (.cells #[a,.slice (some ⟨bb,ob,none⟩) l cb] 44)=wv at*;obtain⟨an,ar,ao⟩:=B2.out;have hx1:=(HW.cell (p:=⟨bb,ob+n,none⟩) aw).trans hx;clear hx;obtain⟨k,hk⟩:∃k,k=min m 4096:=⟨_,rfl⟩;have hmin:(min (m:Int) 4096).toNat=k:=by omega
  have hkm:k<=m:=by omega
  have HQ:Hid (xs.take 4096=xs.take k):=h! (by
   rw[hk,ap.out];by_cases h4:xs.length<=4096
   ·rw[dZ h4,aI h4,cO]
   rw[Nat.min_eq_right (by omega)])
  clear hk;go_upto_region 4 with(fail);go_wp2_with fail;clear an ar ao;refine(tM ((HI.take (k:=k) (by have:=ap.out;omega)).below HW.out)).mono ?_;rintro e w2 ⟨u,S,rfl,ho,hf,hb⟩;have HO:=h! ho;have HF:=h! hf;have HB:=h! hb;clear ho hf hb;go_wp2;go_ret;exact⟨u,S,rfl,by rw[HQ.out];exact HO,fun k hk=>aT HW.size (HF k hk),HW.trans (HB.mono HW.size)⟩
 have ht:decide ((l:Int)<=(n:Int))=true:=by simp;omega
 have ae:(aa.getD n []).take 4096=[]:=by rw[aH,aS (by omega)];rfl
 have HN:=h! ae;clear ac ad af hl ae;go_enter Tryz.func55,Tryz.ntmps55;go_upto_region 1 with(fail);have ag:=(Below.refl w.heap.size w).alloc (aC _) (.cells #[a,.slice ab l cb] 44);have HW:=h! ag;clear ag;have B2:=h! (Box.new w #[a,.slice ab l cb] 44);generalize w.alloc (.cells #[a,.slice ab l cb] 44)=wv at*;obtain⟨an,ar,ao⟩:=B2.out;go_wp2;go_ret;exact⟨_,Foot.none,rfl,by rw[HN.out];exact fP.nil none,fun k hk=>hk.elim,HW.out⟩
theorem mV.lists{W:World}{S:Foot}{v:Value}{xs:List (List Int)}(h:mV W S v xs):nA W v xs:=by
 obtain⟨cs,G,F,hp⟩:=h;have hl:=hp.row.row.len;refine⟨cs,by omega,hp.row.row,fun j hj=> ?_⟩;obtain⟨u,hu,ho⟩:=hp.el j _ (aA hj);have aa:cs[j]? =some u:=by have h1:=kR (cs:=cs) (size:=1) (j:=j) (i:=0) (by omega);rw[hu]at h1;simpa using h1.symm
 have e1:cs.getD j undef=u:=by rw[aH,aa];rfl
 have e2:xs.getD j []=xs[j]:=by rw[aH,aA hj];rfl
 rw[e1,e2];exact ho.ints
theorem MachP.arrs{base bs fuel:Nat}{W W1:World}{bm:Nat}{s:RunS}{ov av vv cv u:Value}{mv:Nat}{m:List (Int×Value)}{F:Nat->Foot}{G:Foot}{xs:List (List Int)}(h:MachP base bs fuel W bm s ⟨0,0,0⟩ ov av vv cv mv m F)(ho:Off (F 2) W W1)(hG:∀k,G k->F 2 k\/W.heap.size<=k)(hB:base<=W.heap.size)
  (hu:mV W1 G u xs):MachP base bs fuel (W1.setCell ⟨bm,4,none⟩ u) bm { s with arrays:=xs } ⟨0,0,0⟩ ov u vv cv mv m (newF F 2 G):=by
 have ac:∀j,j≠2->(F j).off (F 2):=fun j hj=>h.apart j 2 hj;have ad:=qB (i:=2) (G:=G) h.apart (fun _ _ hk=>h.lt hk) hG;have aa:=Off.set W1 ⟨bm,4,none⟩ u;have ae:newF F 2 G 0 bm:=by rw[iV F 2 G (by omega)];exact(h.b0 bm).2 rfl
 have hq:∀j,j≠0->(newF F 2 G j).off (Foot.one bm):=fun j hj k hk e=>ad j 0 hj k hk (by cases e;exact ae);have ab:∀j,j≠0->j≠2->(F j).off (Foot.one bm):=fun j hj hj1=>by have h9:=hq j hj;rwa[iV F 2 G hj1]at h9
 have af:=(h.box.off ho (fun e=>h.apart 0 2 (by omega) _ ((h.b0 _).2 rfl) e)).set 4 u;refine⟨af,by rw[iV F 2 G (by omega)];exact h.b0, ?_, ?_, ?_, ?_, ?_,h.val, ?_,h.v64,ad, ?_, ?_⟩
 ·rw[iV F 2 G (by omega)];exact(h.out.off ho (ac 1 (by omega))).off aa (ab 1 (by omega) (by omega))
 ·have h9:=hq 2 (by omega);rw[oY]at h9⊢;exact hu.off OLis.nice aa h9
 ·rw[iV F 2 G (by omega)];exact(h.vis.off ho (ac 3 (by omega))).off aa (ab 3 (by omega) (by omega))
 ·have h9:=h.mp.keep (ho.block _ h.mp.lt (fun hk=>h.apart 4 2 (by omega) _ ((h.m4 _).2 rfl) hk));exact h9.keep (aa.block _ h9.lt (ab 4 (by omega) (by omega) _ ((h.m4 _).2 rfl)))
 ·rw[iV F 2 G (by omega)];exact h.m4
 ·rw[iV F 2 G (by omega)];exact(h.cel.off ho (ac 5 (by omega))).off aa (ab 5 (by omega) (by omega))
 ·intro j k hk;unfold newF at hk;by_cases e:j=2
  ·omega
  rw[if_neg e]at hk;exact h.six j k hk
 ·intro j k hk;unfold newF at hk;by_cases e:j=2
  ·rw[if_pos e]at hk;rcases hG k hk with h9|h9
   ·exact h.base 2 k h9
   omega
  rw[if_neg e]at hk;exact h.base j k hk
theorem GoodS.start{f:FuncD}{i:InputD}{fuel:Nat}(hc:fO f=0):GoodS f fuel (nU f i):=by
 refine⟨?_, ?_,fun a ha=> ?_,aL _,aC _,aL _, ?_,fun id ht=> ?_⟩
 ·show((List.range f.arrays.toNat).map _).length=_;rw[aZ,dL]
 ·show(List.replicate _ _).length=_;rw[aW]
 ·obtain⟨k,-,rfl⟩:=aN.1 ha;rw[bB];omega
 ·show(List.replicate _ _).length=_;rw[aW]
 show argI f i.args id=0\/argI f i.args id=1;unfold argI;split
 ·rename_i h;have hm:(id,f.params.getD id.toNat 0)∈fX f:=by
   unfold fX parT;refine eX _ (aN.2 ⟨(f.params.getD id.toNat 0,id.toNat), ?_, ?_⟩)
   ·rw[bA];exact gF f.params id.toNat (by omega)
   show(((id.toNat:Nat):Int),f.params.getD id.toNat 0)=_;rw[fH h.1]
  rw[lY (qC hc) hm]at ht;injection ht with ht;rw[if_pos ht];exact mW _
 exact .inl rfl
end
end Go.Proofs.YtagabiidbbhhmaaGreat
