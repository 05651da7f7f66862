/- Part 64. -/
import Derived.Test.YtagabiidbbhhmaaGreatET62
namespace Go.Proofs.YtagabiidbbhhmaaGreat
set_option maxHeartbeats 12800000
set_option linter.all false
set_option maxRecDepth 100000
section
open Go.RowKit
theorem zO{β:Type}:∀{l:List (Int×β)},(l.map (·.1)).Nodup->∀{e:Int×β},e∈l->(l.find? fun x=>x.1 == e.1)=some e
 | [],_,e,h=>by cases h
 | c :: l,hn,e,h=>by
  rw[cI,eH]at hn;rw[fN];by_cases q:c.1=e.1
  ·have:(c.1 == e.1)=true:=by simpa using q
   rw[this];rcases bZ.1 h with h|h
   ·rw[h]
   exact absurd (fI (f:=Prod.fst) h) (by rw[<-q];exact hn.1)
  have:(c.1 == e.1)=false:=by simpa using q
  rw[this];rcases bZ.1 h with h|h
  ·rw[h]at q;exact absurd rfl q
  exact zO hn.2 h
theorem zP{α β:Type}(F:α->β):∀l:List α,(l.map F).zip l=l.map fun q=>(F q,q)
 | []=>rfl
 | q :: l=>by rw[cI,List.zip_cons_cons,zP F l];rfl
section
variable {f:FuncD} {O:List Nat}
theorem wN(hO:fQ f O){k a:Nat}(h:O[k]? =some a):O.idxOf a=k:=by obtain⟨h1,h2⟩:=aD.1 h;have h3:=aX (aG h);have h4:=cA h3;exact(dP hO.facts.1).1 (h4.trans h2.symm)
theorem aFD(hf:gX f=true)(hO:fQ f O){k a:Nat}(h:O[k]? =some a):toB (renF f O) k=(toB f a).map O.idxOf:=by
 have ha:=aG h;have hl:=hO.facts.2.2.1 a ha;have:=aIR ha fun y hy=>by rw[gK (aA hl)]at hy;have:=lR hf (aA hl) y hy;omega
 rwa[wN hO h]at this
theorem zQ(hO:fQ f O):O.idxOf 0=0:=wN hO hO.facts.2.2.2.1
theorem aH0(hf:gX f=true)(hO:fQ f O)(hall:∀d,d<f.blocks.length->Way (toB f) (-1) d){a:Nat}(ha:a∈O){v:Nat}(h:Way (toB (renF f O)) ((O.idxOf a:Nat):Int) v):∃b,O[v]? =some b/\Way (toB f) (a:Int) b:=by
 induction h with
 | zero h0=>
  refine⟨0,hO.facts.2.2.2.1,.zero fun e=>h0 ?_⟩
  have e0:a=0:=by omega
  rw[e0,zQ hO];rfl
 | @step c t hw ht hne ih=>
  obtain⟨b,hb,aa⟩:=ih
  rw[aFD hf hO hb]at ht
  obtain⟨t0,h1,rfl⟩:=aN.1 ht
  have h2:t0∈O:=(hO.facts.2.1 t0).2 (hall _ (aGU hf h1).1)
  refine⟨t0, ?_,.step aa h1 fun e=>hne ?_⟩
  ·have h3:=aX h2
   rw[aA h3,cA]
  have e0:t0=a:=by omega
  rw[e0]
theorem zR(hf:gX f=true)(hO:fQ f O)(hall:∀d,d<f.blocks.length->Way (toB f) (-1) d)(hR:fQ (renF f O) (List.range f.blocks.length)){a b:Nat}(h:lQ f a b):lQ (renF f O) (O.idxOf a) (O.idxOf b):=by
 obtain⟨h1,h2,h3⟩:=h;have ha:=(hO.facts.2.1 a).2 h1;have hb:=(hO.facts.2.1 b).2 h2;have hl:=pY hO hall;have la:=aX ha;have lb:=aX hb;refine⟨(hR.facts.2.1 _).1 (bQ.2 (by omega)),(hR.facts.2.1 _).1 (bQ.2 (by omega)),fun h4=>h3 ?_⟩;obtain⟨c,hc,hw⟩:=aH0 hf hO hall ha h4;have e:c=b:=by have h5:=cA lb;rw[aA lb,h5]at hc;injection hc with hc;exact hc.symm
 rw[<-e];exact hw
theorem aH1(hf:gX f=true)(hO:fQ f O)(hall:∀d,d<f.blocks.length->Way (toB f) (-1) d){k a:Nat}(h:O[k]? =some a):(gT (renF f O) f.blocks.length 0 k).Perm ((gT f f.blocks.length 0 a).map O.idxOf):=by
 have ha:=aG h;have hl:=pY hO hall;have aa:∀c,c<f.blocks.length->c∈O:=fun c hc=>(hO.facts.2.1 c).2 (hall c hc);rw[iM,iM];rw[List.perm_ext_iff_of_nodup (List.Pairwise.filter _ List.nodup_range)]
 ·intro b;simp only[dU,bQ,aN,dN];constructor
  ·rintro⟨hb,hk⟩;have ab:O[b]? =some O[b]:=aA (by omega);rw[aFD hf hO ab]at hk;obtain⟨t,ht,e⟩:=aN.1 hk;have e2:t=a:=by have h1:=lH (aa t (aGU hf ht).1);rw[e,aH,h]at h1;exact h1.symm
   subst e2;exact⟨O[b],⟨hO.facts.2.2.1 _ (dD _),ht⟩,wN hO ab⟩
  rintro⟨c,⟨hc,ht⟩,rfl⟩;have h3:=aX (aa c hc);have ac:O[O.idxOf c]? =some c:=by rw[aA h3,cA]
  refine⟨by omega, ?_⟩;rw[aFD hf hO ac];exact aN.2 ⟨a,ht,wN hO h⟩
 have h1:((List.range f.blocks.length).filter fun b=>(toB f b).contains a).Nodup:=List.Pairwise.filter _ List.nodup_range;rw[bX]at h1⊢;rw[dR];refine(List.Pairwise.and_mem.1 h1).imp fun {x y} ⟨hx,hy,hne⟩ e=>hne ?_;have ae:=bQ.1 (dU.1 hx).1;have ad:=bQ.1 (dU.1 hy).1;have e1:=lH (aa x ae);rw[e,lH (aa y ad)]at e1;exact e1.symm
theorem aH2(hf:gX f=true)(hO:fQ f O)(hall:∀d,d<f.blocks.length->Way (toB f) (-1) d){k a:Nat}(h:O[k]? =some a){p:PhiD}(g:Int->Int)(hp:gJ (natI (gT f f.blocks.length 0 a)) p=true):gJ (natI (gT (renF f O) f.blocks.length 0 k)) (renP g O p)=true:=by
 unfold gJ at hp⊢;rw[aK,decide_eq_true_eq,aY]at hp⊢;obtain⟨h1,h2⟩:=hp;have ab:=aH1 hf hO hall h;have aa:((renP g O p).src).Perm (p.src.map (plO O)):=gM _;refine⟨?_,fun t ht=> ?_⟩
 ·rw[aa.length_eq,aZ,h1,gW,gW,ab.length_eq,aZ]
 unfold natI at ht;obtain⟨b,hb,rfl⟩:=aN.1 ht;obtain⟨c,hc,rfl⟩:=aN.1 (ab.mem_iff.1 hb);have h3:=h2 (c:Int) (by unfold natI;exact aN.2 ⟨c,hc,rfl⟩);rw[dN]at h3⊢;rw[aa.mem_iff];refine aN.2 ⟨(c:Int),h3, ?_⟩;unfold plO;rw[bW]
theorem aMH(hO:fQ f O)(hall:∀d,d<f.blocks.length->Way (toB f) (-1) d)(hf:gX f=true){k a:Nat}{x:BlockD}(hk:O[k]? =some a)(hx:f.blocks[a]? =some x){g:Int->Int}{u':UseD}(hu:u'∈uxB (renB g O x,k)):
  ∃u∈uxB (x,a),u'.id=g u.id/\u'.blk=(k:Int)/\u.blk=(a:Int)/\u'.pos=u.pos/\(u.pos<0->u'.src=plO O u.src):=by
 unfold uxB at hu;rw[aJ,aJ]at hu;rcases hu with(hu|hu)|hu
 ·rw[bC]at hu;obtain⟨p',af,hu⟩:=hu;obtain⟨p,hp,rfl⟩:=aN.1 (show p'∈x.phis.map (renP g O) from af);obtain⟨p1,p2,p3⟩:=rG hf hx hp;have hm:∀q∈p.src,0<=q/\q.toNat∈O:=fun q hq=>⟨(p3 q hq).1,(sP hO hall (p3 q hq)).2.2⟩;unfold uxP at hu;obtain⟨vs,ai,rfl⟩:=aN.1 hu;have hz:vs∈((renP g O p).src.map fun q=>(tyOf ((p.src.map (plO O)).zip (p.vals.map g)) q).getD 0).zip (renP g O p).src:=ai;rw[zP]at hz;obtain⟨s',ab,rfl⟩:=aN.1 hz;have ah:s'∈p.src.map (plO O):=(gM _).mem_iff.1 ab;obtain⟨s,hs,rfl⟩:=aN.1 ah;obtain⟨sn,rfl⟩:∃sn:Nat,s=sn:=⟨s.toNat,by have:=(hm s hs).1;omega⟩;have aa:=aEK (g:=g) hO.facts.1 p1 hm p2 hs;have hi:(renP g O p).src.idxOf (plO O (sn:Int))<(renP g O p).src.length:=aX ab;have hv:(renP g O p).vals.getD ((renP g O p).src.idxOf (plO O (sn:Int))) 0=(tyOf ((p.src.map (plO O)).zip (p.vals.map g)) (plO O (sn:Int))).getD 0:=by show(((renP g O p).src.map fun q=>(tyOf ((p.src.map (plO O)).zip (p.vals.map g)) q).getD 0)).getD _ 0=_;rw[aH,aM,aA hi,cA];rfl
  rw[hv]at aa;have hj:p.src.idxOf (sn:Int)<p.src.length:=aX hs;refine⟨⟨p.vals.getD (p.src.idxOf (sn:Int)) 0,p.typ,a,-1,sn⟩, ?_,aa,rfl,rfl,rfl,fun _=>rfl⟩;unfold uxB;rw[aJ,aJ];refine .inl (.inl (bC.2 ⟨p,hp, ?_⟩));unfold uxP;refine aN.2 ⟨(p.vals.getD (p.src.idxOf (sn:Int)) 0,(sn:Int)), ?_,rfl⟩;refine aG (i:=p.src.idxOf (sn:Int)) ?_;rw[cP];refine⟨?_, ?_⟩
  ·rw[aH,aA (by omega)];rfl
  rw[aA hj,cA]
 ·rw[bC]at hu;obtain⟨yj,ad,hu⟩:=hu;rw[bA]at ad;have ac:(x.code.map (renX g))[yj.2]? =some yj.1:=ad;rw[aM,eP]at ac;obtain⟨y,hy,e⟩:=ac;unfold uxI at hu;rw[<-e]at hu;obtain⟨ag,h1,rfl⟩:=aN.1 hu;have h2:ag∈(y.args.map g).zip (shp0 y.op).args:=h1;rw[List.zip_map_left]at h2;obtain⟨u,h3,rfl⟩:=aN.1 h2;refine⟨⟨u.1,u.2,a,yj.2,0⟩, ?_,rfl,rfl,rfl,rfl,fun h=>by exfalso;have h:((yj.2:Nat):Int)<0:=h;omega⟩;unfold uxB;rw[aJ,aJ];refine .inl (.inr (bC.2 ⟨(y,yj.2),by rw[bA];exact hy, ?_⟩));unfold uxI;exact aN.2 ⟨u,h3,rfl⟩
 ·have hl:(renB g O x).code.length=x.code.length:=by show(x.code.map _).length=_;rw[aZ]
  have ae:∃u∈uxT a x,u'.id=g u.id/\u'.blk=(k:Int)/\u.blk=(a:Int)/\u'.pos=u.pos/\(u.pos<0->u'.src=plO O u.src):=by
   unfold uxT at hu⊢;rw[hl]at hu;have e1:(renB g O x).term.op=x.term.op:=by show(mapT g x.term).op=_;unfold mapT;split<;>rfl
   rw[e1]at hu;by_cases e2:x.term.op=2
   ·have ev:(renB g O x).term.val=g x.term.val:=by show(mapT g x.term).val=_;unfold mapT;rw[if_pos (.inl e2)]
    rw[if_pos e2,cC]at hu;subst hu;exact⟨⟨x.term.val,2,a,x.code.length,0⟩,by rw[if_pos e2];exact cC.2 rfl,ev,rfl,rfl,rfl,fun h=>by exfalso;have h:((x.code.length:Nat):Int)<0:=h;omega⟩
   by_cases e3:x.term.op=3
   ·have ev:(renB g O x).term.val=g x.term.val:=by show(mapT g x.term).val=_;unfold mapT;rw[if_pos (.inr e3)]
    rw[if_neg e2,if_pos e3,cC]at hu;subst hu;exact⟨⟨x.term.val,0,a,x.code.length,0⟩,by rw[if_neg e2,if_pos e3];exact cC.2 rfl,ev,rfl,rfl,rfl,fun h=>by exfalso;have h:((x.code.length:Nat):Int)<0:=h;omega⟩
   rw[if_neg e2,if_neg e3]at hu
   cases hu
  obtain⟨u,h1,h2⟩:=ae;refine⟨u, ?_,h2⟩;unfold uxB;rw[aJ];exact .inr h1
theorem zS{f:FuncD}{e:Int×Int×Int}:e∈blkN f f.blocks.length↔∃(c:Nat) (x:BlockD),f.blocks[c]? =some x/\e∈entB c x:=by
 unfold blkN;rw[cO,bC];constructor
 ·rintro⟨⟨x,c⟩,h1,h2⟩;rw[bA]at h1;exact⟨c,x,h1,h2⟩
 rintro⟨c,x,h1,h2⟩;exact⟨(x,c),by rw[bA];exact h1,h2⟩
theorem aKA(hc:fO f=0)(hO:fQ f O)(hall:∀d,d<f.blocks.length->Way (toB f) (-1) d){id d q:Int}(h:(id,d,q)∈entF f):0<=d/\d.toNat∈O/\(rho f O id,((O.idxOf d.toNat:Nat):Int),q)∈entF (renF f O):=by
 have hN:=jY hc hO hall;have hl:=uT hO hall;unfold entF at h⊢;rw[aJ]at h;rcases h with h|h
 ·unfold parN at h;obtain⟨j,hj,e⟩:=aN.1 h;have hj2:=bQ.1 hj;injection e with e1 e;injection e with e2 e3;subst e1;subst e2;subst e3;refine⟨Int.le_refl _,aG hO.facts.2.2.2.1,eX _ ?_⟩;have e4:rho f O (j:Int)=j:=(mF hN ⟨by omega,by omega⟩).1;have e5:O.idxOf (Int.toNat 0)=0:=zQ hO;rw[e4,e5];unfold parN;exact aN.2 ⟨j,hj,rfl⟩
 obtain⟨c,x,hx,he⟩:=zS.1 h;have ab:=(aD.1 hx).1;have aa:=(hO.facts.2.1 c).2 (hall c ab);have h3:=aX aa;have hk:O[O.idxOf c]? =some c:=by rw[aA h3,cA]
 have hb:=aMX (f:=f) hk;rw[gK hx]at hb;have ac:d=(c:Int)/\(rho f O id,((O.idxOf c:Nat):Int),q)∈entB (O.idxOf c) (renB (rho f O) O x):=by
  unfold entB at he⊢;rw[aJ]at he;rcases he with he|he
  ·unfold phiN at he;rw[cO]at he;obtain⟨p,hp,e⟩:=aN.1 he;injection e with e1 e;injection e with e2 e3;refine⟨e2.symm,eX _ ?_⟩;unfold phiN;rw[cO];refine aN.2 ⟨renP (rho f O) O p,aN.2 ⟨p,hp,rfl⟩, ?_⟩;rw[<-e1,<-e3];rfl
  unfold codN at he;rw[cO]at he;obtain⟨yj,hy,e⟩:=List.mem_filterMap.1 he;rw[bA]at hy;split at e
  ·rename_i h0;injection e with e;injection e with e1 e;injection e with e2 e3;refine⟨e2.symm,List.mem_append_right _ ?_⟩;unfold codN;rw[cO];refine List.mem_filterMap.2 ⟨(renX (rho f O) yj.1,yj.2), ?_, ?_⟩
   ·rw[bA];show(x.code.map (renX (rho f O)))[yj.2]? =_;rw[aM,hy];rfl
   have ad:yj.1.id∈idsO f O:=by refine bC.2 ⟨c,aa, ?_⟩;rw[gK hx];unfold iH;exact List.mem_append_right _ (List.mem_map.2 ⟨yj.1,List.mem_filter.2 ⟨List.mem_of_getElem? hy,by simpa using h0⟩,rfl⟩)
   have e4:(renX (rho f O) yj.1).id=rho f O yj.1.id:=by unfold renX;simp only[if_pos h0]
   rw[if_pos (by rw[e4];exact xT hN ad),e4,e1,e3]
  cases e
 obtain⟨rfl,k2⟩:=ac;refine⟨by omega,aa,List.mem_append_right _ ?_⟩;rw[bW];exact zS.2 ⟨_,_,hb,k2⟩
theorem wO(hc:fO f=0)(hF:gE f 0 0)(hO:fQ f O):gE (renF f O) 0 0:=by
 have aa:=iC hF;have hf:=(fT hc).1;have hR:=rT hc hF hO;have hl:=uT hO aa;have hlen:=pY hO aa;have ah:=sQ hc hF hO;obtain⟨g1,g2,g3⟩:=qP.1 hF;refine qP.2 ⟨fun d hd=>(hR.facts.2.1 d).1 (bQ.2 (by rw[hl]at hd;exact hd)),fun k y hy=> ?_,fun u' hu=> ?_⟩
 ·obtain⟨a,ha,rfl⟩:=sO hy;have ac:=hO.facts.2.2.1 a (aG ha);have hx:=aA ac;rw[gK hx,hl,aY];have h2:=g2 a _ hx;rw[aY]at h2;intro p' ad;obtain⟨p,hp,rfl⟩:=aN.1 (show p'∈f.blocks[a].phis.map (renP (rho f O) O) from ad);exact aH2 hf hO aa ha _ (h2 p hp)
 unfold uxF at hu;obtain⟨yk,hy,hu⟩:=bC.1 hu;rw[bA]at hy;obtain⟨a,ha,e⟩:=sO hy;have ac:=hO.facts.2.2.1 a (aG ha);have hx:=aA ac;rw[gK hx]at e;have af:u'∈uxB (renB (rho f O) O f.blocks[a],yk.2):=by rw[<-e];exact hu
 obtain⟨u,ae,i1,i2,i3,i4,i5⟩:=aMH hO aa hf ha hx af;have ag:u∈uxF f:=by unfold uxF;exact bC.2 ⟨(f.blocks[a],a),by rw[bA];exact hx,ae⟩
 obtain⟨d,q,k1,k2⟩:=g3 u ag;obtain⟨m1,m2,m3⟩:=aKA hc hO aa (eE k1);have ab:=zO (wK ah) m3;refine⟨_,q,by rw[i1];exact ab, ?_⟩;have ik:=wN hO ha;rcases k2 with⟨p1,p2⟩|⟨p1,p2⟩
 ·refine .inl ⟨by rw[i4];exact p1, ?_⟩;have h8:=zR hf hO aa hR p2;rw[i5 p1];unfold plO;rw[bW,bW];exact h8
 refine .inr ⟨by rw[i4];exact p1, ?_⟩;unfold mH at p2⊢;rw[i2,i4];rw[i3]at p2;rcases p2 with⟨p2,p3⟩|⟨p2,p3⟩
 ·refine .inl ⟨?_,p3⟩;rw[p2,bW,ik]
 refine .inr ⟨fun e2=>p2 ?_, ?_⟩
 ·have e3:O.idxOf d.toNat=yk.2:=by omega
  have e4:=lH m2;rw[e3,aH,ha]at e4;have e5:a=d.toNat:=e4;omega
 rw[bW,bW,<-ik];have h8:=zR hf hO aa hR p3;rwa[bW]at h8
end
section
variable {f:FuncD} {O:List Nat}
theorem yE{n k:Nat}(h:k<n):(List.range n).idxOf k=k:=by have h1:=lH (O:=List.range n) (bQ.2 h);have h2:=aX (bQ.2 h);rw[dL]at h2;rw[aH,dK h2]at h1;exact h1
theorem wP{n:Nat}{q:Int}(h:0<=q/\q<n):plO (List.range n) q=q:=by unfold plO;rw[yE (by omega)];omega
theorem oM{α:Type}{l:List α}{g:α->α}(h:∀x∈l,g x=x):l.map g=l:=by
 induction l with
 | nil=>rfl
 | cons x l ih=>rw[cI,h x (by simp),ih fun y hy=>h y (bL _ hy)]
theorem aB4{l:List Int}(h:Rise l):kH l=l:=by
 have hn:l.Nodup:=by rw[bX];exact h.imp fun h e=>by omega
 exact qU (oL hn) h fun x=>(gM l).mem_iff
theorem aH3(hO:fQ f O)(hall:∀d,d<f.blocks.length->Way (toB f) (-1) d)(hf:gX f=true){a:Nat}{x:BlockD}(hx:f.blocks[a]? =some x){p:PhiD}(hp:p∈x.phis)(g:Int->Int):Rise (renP g O p).src:=by obtain⟨p1,p2,p3⟩:=rG hf hx hp;refine oL ?_;rw[bX,dR];rw[bX]at p1;exact(List.Pairwise.and_mem.1 p1).imp fun {q r} ⟨ha,hb,hne⟩ e=>hne (aGC (p3 q ha).1 (p3 r hb).1 (sP hO hall (p3 q ha)).2.2 (sP hO hall (p3 r hb)).2.2 e)
theorem aKB{ss vs:List Int}(hn:ss.Nodup)(hl:ss.length=vs.length):(ss.map fun q=>(tyOf (ss.zip vs) q).getD 0)=vs:=by
 refine bJ fun i=> ?_;rw[aM];by_cases hi:i<ss.length
 ·have h1:vs[i]? =some vs[i]:=aA (by omega);have h2:(ss.zip vs)[i]? =some (ss[i],vs[i]):=by rw[cP];exact⟨aA hi,h1⟩
  rw[aA hi,h1,dB,lY (by rw[List.map_fst_zip (by omega)];exact hn) (aG h2)];rfl
 rw[aS (by omega),aS (by omega)];rfl
theorem aKC(hc:fO f=0)(hF:gE f 0 0)(hO:fQ f O):renF (renF f O) (List.range f.blocks.length)=renF f O:=by
 have ac:=iC hF;have hN:=jY hc hO ac;have hf:=(fT hc).1;have hR:=rT hc hF hO;have af:=sQ hc hF hO;have ak:=wO hc hF hO;have ab:=iC ak;have ag:=(fT af).1;have ai:=jY af hR ab;have hl:=uT hO ac;have ae:=aJV hc hF hO;obtain⟨g,hg⟩:∃g,g=renF f O:=⟨_,rfl⟩;have hgp:g.params=f.params:=by rw[hg];rfl
 have aa:∀v,Has9 (renF f O) (List.range f.blocks.length) v->rho (renF f O) (List.range f.blocks.length) v=v:=fun v hv=>by
  rcases hv with hv|hv
  ·exact(mF ai hv).1
  obtain⟨k,hk⟩:=bP hv;have h1:rho (renF f O) (List.range f.blocks.length) v=(((renF f O).params.length+k:Nat):Int):=(mO ai hk).1;rw[h1];rw[ae,aM,eP]at hk;obtain⟨u,hu,e⟩:=hk;rw[<-e];exact((mO hN hu).1).symm
 have ad:∀b,b<f.blocks.length->renB (rho (renF f O) (List.range f.blocks.length)) (List.range f.blocks.length) (iK (renF f O) b)=iK (renF f O) b:=fun b hb=>by
  have hy:(renF f O).blocks[b]? =some (renF f O).blocks[b]:=aA (by rw[hl];exact hb);have aq:=aG hy;obtain⟨a,ha,e⟩:=sO hy;have ao:=hO.facts.2.2.1 a (aG ha);have hx:=aA ao;rw[gK hx]at e;rw[gK hy];obtain⟨u1,u2,u3⟩:=zG af hR ab aq;have al:b∈List.range f.blocks.length:=bQ.2 hb;have ah:∀v∈iH (renF f O).blocks[b],rho (renF f O) (List.range f.blocks.length) v=v:=fun v hv=>aa v (aL4 al (by rw[gK hy];exact hv));generalize (renF f O).blocks[b]=y at*;have aj:=lR ag hy;rw[hl]at aj;have e1:y.phis.map (renP (rho (renF f O) (List.range f.blocks.length)) (List.range f.blocks.length))=y.phis:=oM fun p hp=>by
   obtain⟨p1,p2,p3⟩:=rG ag hy hp;rw[hl]at p3;have am:Rise p.src:=by rw[e]at hp;obtain⟨p0,an,rfl⟩:=aN.1 (show p∈f.blocks[a].phis.map (renP (rho f O) O) from hp);exact aH3 hO ac hf hx an _
   have s1:p.src.map (plO (List.range f.blocks.length))=p.src:=oM fun q hq=>wP (p3 q hq);have s2:p.vals.map (rho (renF f O) (List.range f.blocks.length))=p.vals:=oM fun v hv=>aa v (u1 p hp v hv);have s3:rho (renF f O) (List.range f.blocks.length) p.id=p.id:=ah p.id (by unfold iH;exact eX _ (aN.2 ⟨p,hp,rfl⟩));unfold renP;rw[s1,s2,s3,aB4 am,aKB p1 p2]
  have e2:y.code.map (renX (rho (renF f O) (List.range f.blocks.length)))=y.code:=oM fun z hz=>by
   have s2:z.args.map (rho (renF f O) (List.range f.blocks.length))=z.args:=oM fun v hv=>aa v (u2 z hz v hv);unfold renX;rw[s2];by_cases h0:0<=z.id
   ·have s3:=ah z.id (by unfold iH;exact List.mem_append_right _ (List.mem_map.2 ⟨z,List.mem_filter.2 ⟨hz,by simpa using h0⟩,rfl⟩));rw[if_pos h0,s3]
   rw[if_neg h0]
  have e3:mapT (rho (renF f O) (List.range f.blocks.length)) y.term=y.term:=by
   unfold mapT;split
   ·rename_i h;rw[aa _ (u3 h)]
   rfl
  have e4:y.term.to.map (plO (List.range f.blocks.length))=y.term.to:=oM fun q hq=>wP (by have:=aj q hq;omega);unfold renB;rw[e1,e2,e3,e4]
 have ap:(List.range f.blocks.length).map (fun b=>renB (rho (renF f O) (List.range f.blocks.length)) (List.range f.blocks.length) (iK (renF f O) b))=(renF f O).blocks:=by rw[bT (g:=iK (renF f O)) fun b hb=>ad b (bQ.1 hb),<-hl];exact tR _
 have e:renF (renF f O) (List.range f.blocks.length)={ renF f O with blocks:=(List.range f.blocks.length).map fun b=>renB (rho (renF f O) (List.range f.blocks.length)) (List.range f.blocks.length) (iK (renF f O) b) }:=rfl;rw[e,ap]
end
def mZ(t u:TraceD):Bool:=(t.how == u.how)&&(t.value == u.value)&&(t.trap == u.trap)&&decide (t.out=u.out)&&decide (t.arrays=u.arrays)
def aMI(b:Bool)(w:World)(e:Ending)(w':World):Prop:=e=.returned (.bool b)/\Below w.heap.size w w'
theorem aB5(w:World)(n:Nat):Below w.heap.size w (w.drewN n):=⟨rfl,rfl,rfl,aC _,fun _ _=>rfl⟩
set_option maxHeartbeats 6400000 in
theorem aH4{w:World}{v v':Value}{t u:TraceD}(ht:mR w v t)(hu:mR w v' u):Calls Tryz.prog 35 #[v,v'] w (aMI (mZ t u) w):=by
 rcases t with⟨x0,x1,x2,xo,xa,x5,x6,xv⟩;rcases u with⟨y0,y1,y2,yo,ya,y5,y6,yv⟩;obtain⟨o1,a1,v1,rfl,ah,af,ap⟩:=ht;obtain⟨o2,a2,v2,rfl,al,ag,ao⟩:=hu;simp only at ah af ap al ag ao⊢;have aq:=h! ah;have ax:=h! al;have ar:=h! af;have aw:=h! ag;obtain⟨b1,c1,rfl⟩:=ah.form;obtain⟨b2,c2,rfl⟩:=al.form;obtain⟨b3,c3,rfl⟩:=ap.form;obtain⟨b4,c4,rfl⟩:=ao.form;obtain⟨_,b5,c5,_,_,rfl,-,-,-,-,-,-⟩:=af.parts;obtain⟨_,b6,c6,_,_,rfl,-,-,-,-,-,-⟩:=ag.parts;clear ah al af ag ap ao;go_enter Tryz.func35,Tryz.ntmps35;go_upto_region 1 with(fail);have ab:=(Below.refl w.heap.size w).alloc (aC _) (.cells #[.int .i64 x0,.int .i64 x1,.int .i64 x2,.slice b1 xo.length c1,.slice b5 xa.length c5,.int .i64 x5,.int .i64 x6,.slice b3 xv.length c3] 49);have HW:=h! ab;clear ab;have B2:=h! (Box.new w #[.int .i64 x0,.int .i64 x1,.int .i64 x2,.slice b1 xo.length c1,.slice b5 xa.length c5,.int .i64 x5,.int .i64 x6,.slice b3 xv.length c3] 49);have ac:(w.alloc (.cells #[.int .i64 x0,.int .i64 x1,.int .i64 x2,.slice b1 xo.length c1,.slice b5 xa.length c5,.int .i64 x5,.int .i64 x6,.slice b3 xv.length c3] 49)).heap.size=w.heap.size+1:=World.size_alloc _ _;generalize w.alloc (.cells #[.int .i64 x0,.int .i64 x1,.int .i64 x2,.slice b1 xo.length c1,.slice b5 xa.length c5,.int .i64 x5,.int .i64 x6,.slice b3 xv.length c3] 49)=ai at*;have ab:=(Below.refl ai.heap.size ai).alloc (aC _) (.cells #[.int .i64 y0,.int .i64 y1,.int .i64 y2,.slice b2 yo.length c2,.slice b6 ya.length c6,.int .i64 y5,.int .i64 y6,.slice b4 yv.length c4] 49);replace B2:=h! (B2.later ab);replace HW:=w! HW ab;clear ab;have B3:=h! (Box.new ai #[.int .i64 y0,.int .i64 y1,.int .i64 y2,.slice b2 yo.length c2,.slice b6 ya.length c6,.int .i64 y5,.int .i64 y6,.slice b4 yv.length c4] 49);rw[ac]at B3;clear ac;generalize ai.alloc (.cells #[.int .i64 y0,.int .i64 y1,.int .i64 y2,.slice b2 yo.length c2,.slice b6 ya.length c6,.int .i64 y5,.int .i64 y6,.slice b4 yv.length c4] 49)=wv at*;obtain⟨ak,am,ae⟩:=B2.out;obtain⟨ad,aj,an⟩:=B3.out
 cases q0:(x0 == y0)
 ·have aa:Hid (mZ ⟨x0,x1,x2,xo,xa,x5,x6,xv⟩ ⟨y0,y1,y2,yo,ya,y5,y6,yv⟩=false):=h! (by simp[mZ,q0]);go_wp2;go_ret;exact⟨by rw[aa.out];rfl,HW.out⟩
 cases q1:(x1 == y1)
 ·have aa:Hid (mZ ⟨x0,x1,x2,xo,xa,x5,x6,xv⟩ ⟨y0,y1,y2,yo,ya,y5,y6,yv⟩=false):=h! (by simp[mZ,q0,q1]);go_wp2;go_ret;exact⟨by rw[aa.out];rfl,HW.out⟩
 cases q2:(x2 == y2)
 ·have aa:Hid (mZ ⟨x0,x1,x2,xo,xa,x5,x6,xv⟩ ⟨y0,y1,y2,yo,ya,y5,y6,yv⟩=false):=h! (by simp[mZ,q0,q1,q2]);go_wp2;go_ret;exact⟨by rw[aa.out];rfl,HW.out⟩
 have HQ:=h! (show(x0 == y0)=true/\(x1 == y1)=true/\(x2 == y2)=true from⟨q0,q1,q2⟩);go_wp2_with fail;refine(zW (aq.below HW.out) (ax.below HW.out)).mono ?_;rintro e w2 ⟨rfl,n,rfl⟩;have hb:=aB5 wv n;generalize wv.drewN n=w2 at*;clear ak am ae ad aj an;replace B2:=h! (B2.later hb);replace B3:=h! (B3.later hb);replace HW:=w! HW hb;clear hb;obtain⟨ak,am,ae⟩:=B2.out;obtain⟨ad,aj,an⟩:=B3.out
 cases q3:decide (xo=yo)
 ·have aa:Hid (mZ ⟨x0,x1,x2,xo,xa,x5,x6,xv⟩ ⟨y0,y1,y2,yo,ya,y5,y6,yv⟩=false):=h! (by simp only[mZ,q3];simp);go_wp2;go_ret;exact⟨by rw[aa.out];rfl,HW.out⟩
 have HQ3:=h! q3;go_wp2_with fail;refine(aCX (ar.below HW.out) (aw.below HW.out)).mono ?_;rintro e w3 ⟨rfl,hb⟩;have aa:Hid (mZ ⟨x0,x1,x2,xo,xa,x5,x6,xv⟩ ⟨y0,y1,y2,yo,ya,y5,y6,yv⟩=decide (xa=ya)):=h! (by simp only[mZ,q3,q0,q1,q2];simp);clear ak am ae ad aj an;replace B2:=h! (B2.later hb);replace B3:=h! (B3.later hb);replace HW:=w! HW hb;clear hb;obtain⟨ak,am,ae⟩:=B2.out;obtain⟨ad,aj,an⟩:=B3.out;go_wp2;go_ret;exact⟨by rw[aa.out];rfl,HW.out⟩
def RanO(f:FuncD)(i:InputD)(lo:Int)(u:Value)(φ:Foot)(W:World):Prop:=∃t,RunP f i lo t/\mS W φ u t
theorem RanO.off{f:FuncD}{i:InputD}{lo:Int}{u:Value}{φ D:Foot}{W W':World}(h:RanO f i lo u φ W)(ho:Off D W W')(hn:φ.off D):RanO f i lo u φ W':=by obtain⟨t,h1,h2⟩:=h;exact⟨t,h1,h2.off ho hn⟩
theorem mR.later{W W':World}{v:Value}{t:TraceD}(h:mR W v t)(hb:Below W.heap.size W W'):mR W' v t:=h.below hb
theorem mR.out{W:World}{a1 a2 a3:Option Addr}{n1 n2 n3 c1 c2 c3:Nat}{t:TraceD}{x1 x2 x3 x4 x5:Value}(h:mR W (.agg #[x1,x2,x3,.slice a1 n1 c1,.slice a2 n2 c2,x4,x5,.slice a3 n3 c3]) t):Ints W (.slice a1 n1 c1) t.out:=by obtain⟨a,b,c,e,h1,h2,h3⟩:=h;injection e with e;simp at e;rw[e.2.2.2.1];exact h1
theorem mS.forms{W:World}{S:Foot}{v:Value}{t:TraceD}(h:mS W S v t):∃a1 a2 a3 c1 c2 c3,v=.agg #[.int .i64 t.how,.int .i64 t.value,.int .i64 t.trap,.slice a1 t.out.length c1,.slice a2 t.arrays.length c2,.int .i64 t.steps,.int .i64 t.checks,.slice a3 t.visits.length c3]:=by obtain⟨ov,av,vv,rfl,ho,ha,hv⟩:=h.val;obtain⟨b1,c1,rfl⟩:=ho.form;obtain⟨b3,c3,rfl⟩:=hv.form;obtain⟨_,b5,c5,_,_,rfl,-,-,-,-,-,-⟩:=ha.parts;exact⟨_,_,_,_,_,_,rfl⟩
theorem yF:jZ Tryz.prog 42 (rN aJD 1):=lX Tryz.underlying42 (by kernel_rfl) (by kernel_rfl) (by omega) (Nat.le_of_ble_eq_true rfl:8<=24) lA
theorem aH5{W:World}{v:Value}{xs:List (List Int)}(h:fV aJD 1 W v xs):nA W v xs:=by
 obtain⟨cs,h1,h2⟩:=h;have hl:=h1.len;refine⟨cs,by omega,h1,fun j hj=> ?_⟩;obtain⟨u,hu,hI⟩:=h2 j _ (aA hj);have aa:cs[j]? =some u:=by have h9:=congrArg (fun l:List Value=>l[0]?) hu;simp only[bF,bU,eN,dE]at h9;simpa using h9
 have e1:cs.getD j undef=u:=by rw[aH,aa];rfl
 have e2:xs.getD j []=xs[j]:=by rw[aH,aA hj];rfl
 rw[e1,e2];exact hI
def aMJ(W:World)(cs:List Value)(i:InputD):Prop:=∃a b,cs=[a,b]/\Ints W a i.args/\nA W b i.arrays
theorem yG:jZ Tryz.prog 44 aMJ:=
 (uA Tryz.underlying44 (s0:=1) (s1:=1) (by kernel_rfl) rfl rfl (by kernel_rfl) (by kernel_rfl) lA yF).mono
  fun W cs y ⟨d0,d1,e,_,⟨v,e0,h0⟩,u,e1,h1⟩=>⟨⟨y.1,y.2⟩,v,u,by rw[e,e0,e1];rfl,h0,aH5 h1⟩
theorem aFE{H:Type}{enc:TypeId×Value->H}{W:World}{v:Value}{d:DataW H}{ps:List MemPlace}{base:Nat}(hval:Value.okWide Tryz.prog W .any base 44 v)
  (h:DataW.Trod enc Tryz.prog W 0 (fun _=>true) true 44 v d ps) (hz:∀n∈d.weights Tryz.prog 44,n<=reachBytes):∃i:InputD,sI W v i:=by
 obtain⟨cs,i,hv,hf⟩:=nW Tryz.underlying44 yG hval h hz;obtain⟨a,b,e,r⟩:=hf;refine⟨i,a,b, ?_,r⟩;rw[hv,<-Array.toArray_toList (xs:=cs),e]
end
section
open Go.RowKit
def IsR(f:FuncD)(w:World)(e:Ending)(w':World):Prop:=∃k:Bool,e=.returned (.bool k)/\(k=true↔fO f=0/\gE f 0 0)/\Below w.heap.size w w'
theorem aNJ{w:World}{v:Value}{f:FuncD}(hv:gS w v f):Calls Tryz.prog 20 #[v] w (IsR f w):=by
 have HV:=h! hv;obtain⟨ap,cp,ab,cb,rfl,-,-,-,-⟩:=hv.form;clear hv;go_enter Tryz.func20,Tryz.ntmps20;go_upto_region 1 with(fail);have ae:=(Below.refl w.heap.size w).alloc (aC _) (.cells #[.slice ap f.params.length cp,.int .i64 f.arrays,.int .i64 f.cells,.slice ab f.blocks.length cb] 25);have HW:=h! ae;clear ae;have B1:=h! (Box.new w #[.slice ap f.params.length cp,.int .i64 f.arrays,.int .i64 f.cells,.slice ab f.blocks.length cb] 25);generalize w.alloc (.cells #[.slice ap f.params.length cp,.int .i64 f.arrays,.int .i64 f.cells,.slice ab f.blocks.length cb] 25)=wv at*;obtain⟨ad,aa,ac⟩:=B1.out;go_wp2_with fail;refine(aFG (HV.below HW.out)).mono ?_;rintro e w2 ⟨b,g,rfl,h1,h2,hb⟩;have HS:=h! (SErr.of_check h1 h2);clear h1 h2;clear ad aa ac;replace B1:=h! (B1.later hb);replace HW:=w! HW hb;clear hb;obtain⟨ad,aa,ac⟩:=B1.out;by_cases hg:g=0
 ·have HG:Hid (fO f=0/\gE f 0 0):=h! (by have h9:=HS.out;rw[hg]at h9;exact h9.zero);have hq:(g == 0)=true:=by simpa using hg
  clear hg;go_wp2;go_ret;exact⟨true,rfl,⟨fun _=>HG.out,fun _=>rfl⟩,HW.out⟩
 have HG:Hid (¬(fO f=0/\gE f 0 0)):=h! (fun h=>hg (HS.one (.inr ⟨h.1,0,h.2⟩)));have hq:(g == 0)=false:=by simpa using hg
 clear hg;go_wp2;go_ret;exact⟨false,rfl,⟨fun h=>absurd h (by simp),fun h=>absurd h HG.out⟩,HW.out⟩
theorem aB6{f g h:FuncD}{i:Int}(hg:RenP f g 0)(hh:RenP g h i):i=0/\h=g/\fO f=0/\gE f 0 0/\fO g=0/\gE g 0 0/\∃O,fQ f O/\g=renF f O:=by
 obtain⟨s,h1,h2⟩:=hg;rcases h2 with⟨n,_,e⟩|⟨rfl,_,O,hO,rfl⟩
 ·exact absurd e.symm n
 obtain⟨hc,hF⟩:=h1.zero;have aa:=sQ hc hF hO;have ab:=wO hc hF hO;have hs:SErr (renF f O) 0:=.inr ⟨aa,0,ab⟩;obtain⟨s2,k1,k2⟩:=hh;obtain rfl:=k1.one hs;rcases k2 with⟨n,_⟩|⟨_,rfl,Q,hQ,rfl⟩
 ·exact absurd rfl n
 have e:=vH hQ (rT hc hF hO);rw[e];exact⟨rfl,aKC hc hF hO,hc,hF,aa,ab,O,hO,rfl⟩
theorem aH7{f g:FuncD}{r:Bool}(h1:RenP f g 0)(h2:RenP g g 0)(h:vI f g r):r=true:=by obtain⟨a,b,k,q,k1,k2,rfl⟩:=h;obtain⟨rfl,rfl⟩:=k1.one h1;obtain⟨rfl,rfl⟩:=k2.one h2;simp
theorem aFI{f g:FuncD}{r:Bool}(h1:RenP f g 0)(h2:RenP g g 0)(h:vI g f r):r=true:=by obtain⟨a,b,k,q,k1,k2,rfl⟩:=h;obtain⟨rfl,rfl⟩:=k2.one h1;obtain⟨rfl,rfl⟩:=k1.one h2;simp
theorem aH8{w:World}{v u:Value}(f:FuncD)(i:InputD)(hv:gS w v f)(hi:sI w u i):
  Calls Tryz.prog 10 #[v,u] w fun e w'=>e=.returned (.bool true)/\Below w.heap.size w w':=by
 have HV:=h! hv;have HI:=h! hi;obtain⟨ap,cp,ab,cb,rfl,-,-,-,-⟩:=hv.form;obtain⟨ua,ub,rfl,dk,dm⟩:=hi;obtain⟨aa,ca,rfl⟩:=dk.form;obtain⟨_,b5,c5,_,_,rfl,-,-,-,-,-,-⟩:=dm.parts;clear dk dm hv;go_enter Tryz.func10,Tryz.ntmps10;go_upto_region 1 with(fail);have an:=(Below.refl w.heap.size w).alloc (aC _) (.cells #[.slice ap f.params.length cp,.int .i64 f.arrays,.int .i64 f.cells,.slice ab f.blocks.length cb] 25);have HW:=h! an;clear an;have B4:=h! (Box.new w #[.slice ap f.params.length cp,.int .i64 f.arrays,.int .i64 f.cells,.slice ab f.blocks.length cb] 25);have bl:(w.alloc (.cells #[.slice ap f.params.length cp,.int .i64 f.arrays,.int .i64 f.cells,.slice ab f.blocks.length cb] 25)).heap.size=w.heap.size+1:=World.size_alloc _ _;generalize w.alloc (.cells #[.slice ap f.params.length cp,.int .i64 f.arrays,.int .i64 f.cells,.slice ab f.blocks.length cb] 25)=cs at*;have an:=(Below.refl cs.heap.size cs).alloc (aC _) (.cells #[.slice aa i.args.length ca,.slice b5 i.arrays.length c5] 44);replace B4:=h! (B4.later an);replace HW:=w! HW an;clear an;have B5:=h! (Box.new cs #[.slice aa i.args.length ca,.slice b5 i.arrays.length c5] 44);rw[bl]at B5;clear bl;generalize cs.alloc (.cells #[.slice aa i.args.length ca,.slice b5 i.arrays.length c5] 44)=wv at*;obtain⟨af,ag,ai⟩:=B4.out;obtain⟨ae,aj,ah⟩:=B5.out;go_wp2_with fail;refine(tV _ _ _ (HV.below HW.out)).mono ?_;rintro e w2 ⟨g,k,v2,S2,hp,rfl,hO,hF,hb⟩;obtain⟨ax,cx,bx,dx,rfl,-,-,-,-⟩:=hO.reads.form;have HG:=h! (kM hO hF);have HP:=h! hp;clear hp hO hF;clear af ag ai ae aj ah;replace B4:=h! (B4.later hb);replace B5:=h! (B5.later hb);replace HW:=w! HW hb;clear hb;obtain⟨af,ag,ai⟩:=B4.out;obtain⟨ae,aj,ah⟩:=B5.out;go_upto_region 2 with(fail);replace HG:=h! (HG.more (aC _));have cd:w2.heap.size≠w.heap.size:=fun e=>by have:=af;omega
 have nB4B6:w.heap.size≠w2.heap.size:=fun e=>cd e.symm;have cg:w2.heap.size≠w.heap.size+1:=fun e=>by have:=ae;omega
 have nB5B6:w.heap.size+1≠w2.heap.size:=fun e=>cg e.symm;clear af ag ai ae aj ah;have an:=(Below.refl w2.heap.size w2).alloc (aC _) (.cells #[.slice ax g.params.length cx,.int .i64 g.arrays,.int .i64 g.cells,.slice bx g.blocks.length dx] 25);replace B4:=h! (B4.later an);replace B5:=h! (B5.later an);replace HG:=h! (HG.later an);replace HW:=w! HW an;clear an;have B6:=h! (Box.new w2 #[.slice ax g.params.length cx,.int .i64 g.arrays,.int .i64 g.cells,.slice bx g.blocks.length dx] 25);generalize w2.alloc (.cells #[.slice ax g.params.length cx,.int .i64 g.arrays,.int .i64 g.cells,.slice bx g.blocks.length dx] 25)=w3 at*;obtain⟨af,ag,ai⟩:=B4.out;obtain⟨ae,aj,ah⟩:=B5.out;obtain⟨ak,am,al⟩:=B6.out;go_wp2_with fail;refine aIL.mono ?_;rintro e w4 ⟨rfl,hb⟩;clear af ag ai ae aj ah ak am al;replace B4:=h! (B4.later hb);replace B5:=h! (B5.later hb);replace B6:=h! (B6.later hb);replace HG:=h! (HG.later hb);replace HW:=w! HW hb;clear hb;obtain⟨af,ag,ai⟩:=B4.out;obtain⟨ae,aj,ah⟩:=B5.out;obtain⟨ak,am,al⟩:=B6.out;by_cases hk:k=0;rotate_left
 ·have hk0:(k != 0)=true:=by simpa using hk
  clear hk;go_wp2_with fail;refine aIL.mono ?_;rintro e w5 ⟨rfl,hb⟩;clear af ag ai ae aj ah ak am al;replace B4:=h! (B4.later hb);replace B5:=h! (B5.later hb);replace B6:=h! (B6.later hb);replace HG:=h! (HG.later hb);replace HW:=w! HW hb;clear hb;obtain⟨af,ag,ai⟩:=B4.out;obtain⟨ae,aj,ah⟩:=B5.out;obtain⟨ak,am,al⟩:=B6.out;go_wp2;go_ret;exact⟨rfl,HW.out⟩
 subst hk;go_wp2_with fail;refine(tV _ _ _ HG.now.reads).mono ?_;rintro e w5 ⟨h,j,v3,S3,cv,rfl,hO,hF,hb⟩;obtain⟨ef,ec,hc,dd,dg,de,O,cL,dv⟩:=aB6 HP.out cv;subst ef;obtain rfl:g=h:=ec.symm;obtain⟨ay,cy,bz,dz,rfl,-,-,-,-⟩:=hO.reads.form;have HH:=h! (kM hO hF);have cw:Hid (RenP g g 0):=h! cv;have bo:=h! (And.intro hc (And.intro dd (And.intro dg de)));have cq:Hid (fQ f O/\g=renF f O):=h! ⟨cL,dv⟩;clear cv hO hF hc dd dg de cL dv;clear af ag ai ae aj ah ak am al;replace B4:=h! (B4.later hb);replace B5:=h! (B5.later hb);replace B6:=h! (B6.later hb);replace HG:=h! (HG.later hb);replace HW:=w! HW hb;clear hb;obtain⟨af,ag,ai⟩:=B4.out;obtain⟨ae,aj,ah⟩:=B5.out;obtain⟨ak,am,al⟩:=B6.out;go_upto_region 5 with(fail);replace HG:=h! (HG.more (aC _));replace HH:=h! (HH.more (aC _));have bw:w5.heap.size≠w.heap.size:=fun e=>by have:=af;omega
 have nB4B7:w.heap.size≠w5.heap.size:=fun e=>bw e.symm;have cf:w5.heap.size≠w.heap.size+1:=fun e=>by have:=ae;omega
 have nB5B7:w.heap.size+1≠w5.heap.size:=fun e=>cf e.symm;have cj:w5.heap.size≠w2.heap.size:=fun e=>by have:=ak;omega
 have nB6B7:w2.heap.size≠w5.heap.size:=fun e=>cj e.symm;clear af ag ai ae aj ah ak am al;have an:=(Below.refl w5.heap.size w5).alloc (aC _) (.cells #[.slice ay g.params.length cy,.int .i64 g.arrays,.int .i64 g.cells,.slice bz g.blocks.length dz] 25);replace B4:=h! (B4.later an);replace B5:=h! (B5.later an);replace B6:=h! (B6.later an);replace HG:=h! (HG.later an);replace HH:=h! (HH.later an);replace HW:=w! HW an;clear an;have B7:=h! (Box.new w5 #[.slice ay g.params.length cy,.int .i64 g.arrays,.int .i64 g.cells,.slice bz g.blocks.length dz] 25);generalize w5.alloc (.cells #[.slice ay g.params.length cy,.int .i64 g.arrays,.int .i64 g.cells,.slice bz g.blocks.length dz] 25)=w6 at*;obtain⟨af,ag,ai⟩:=B4.out;obtain⟨ae,aj,ah⟩:=B5.out;obtain⟨ak,am,al⟩:=B6.out;obtain⟨aq,bb,ba⟩:=B7.out;have cG:=HG;have eg:Hid (∀k,S2 k->k<w6.heap.size):=h! HG.lt;have ee:Hid (∀k,S3 k->k<w6.heap.size):=h! HH.lt;refine Seven.wp_region_grow 8 (fun _=>none) (fun ν kz=>match kz with|2=>.holds (fun u φ w'=>RanO f i 800 u φ w')|5=>.holds (fun u φ w'=>RanO g i 800 u φ w')|6=>.holds (Seven.MadeS (fun b=>.pointer (some ⟨b,0,none⟩)) #[.int .i64 0,.int .i64 0,.int .i64 0,.slice none 0 0,.slice none 0 0,.int .i64 0,.int .i64 0,.slice none 0 0])|7=>.holds (Seven.MadeS (fun b=>.pointer (some ⟨b,0,none⟩)) #[.int .i64 0,.int .i64 0,.int .i64 0,.slice none 0 0,.slice none 0 0,.int .i64 0,.int .i64 0,.slice none 0 0])|_=>.plain) (by kernel_rfl) (by kernel_rfl) ?_ ?_ ?_ (fun ν=> ?_)
 ·(intro ν k;(try dsimp only);split<;>first|exact True.intro|(intro u φ w1 w2 D hu ho cm hDb hlt hn;first|exact Seven.MadeS.off hu ho cm|(exact hu.off ho cm)))
 ·(intro ν ν' k h;first|rfl|((try dsimp only);split<;>first|rfl))
 ·(intro j k h;cases h)
 simp only[aP,aU,aR,aV];iterate 2 (refine Seven.Grow.val (v:= ?_) rfl rfl (fun wg hbg hdg=> ?_) ?_;rotate_left;(focus((obtain⟨dw,dr,dy⟩:=B4.later hbg);(obtain⟨df,dh,cM⟩:=B5.later hbg);(obtain⟨eb,cB,dc⟩:=B6.later hbg);(obtain⟨dn,db,dt⟩:=B7.later hbg);clear hbg hdg;first|(go_simp;done)|(go_simp;with_reducible rfl)));simp only[Act.put,aB,aE,aF])
 refine Seven.Grow.call (f:= ?_) (args:= ?_) rfl (by intro h;cases h) (fun wg=> ?_) (fun wg hbg hdg=> ?_) ?_;rotate_left 2;focus(first|(go_simp;done)|(go_simp;refine And.intro ?_ ?_<;>with_reducible rfl)|(go_simp;with_reducible rfl))
 focus(exact(runO (HV.below (w! HW hbg)) (HI.below (w! HW hbg)) ⟨by omega,by omega⟩).mono (fun e w2 ⟨v,t,S,he,hp,ht,hs,hb⟩=>⟨v,S,he,⟨t,hp,ht⟩,hb,fun k hk=>⟨hs k hk,ht.lt k hk⟩⟩))
 simp only[Act.put,Seven.Known.val,aB,aE,aF];iterate 2 (refine Seven.Grow.val (v:= ?_) rfl rfl (fun wg hbg hdg=> ?_) ?_;rotate_left;(focus((obtain⟨dw,dr,dy⟩:=B4.later hbg);(obtain⟨df,dh,cM⟩:=B5.later hbg);(obtain⟨eb,cB,dc⟩:=B6.later hbg);(obtain⟨dn,db,dt⟩:=B7.later hbg);clear hbg hdg;first|(go_simp;done)|(go_simp;with_reducible rfl)));simp only[Act.put,aB,aE,aF])
 refine Seven.Grow.call (f:= ?_) (args:= ?_) rfl (by intro h;cases h) (fun wg=> ?_) (fun wg hbg hdg=> ?_) ?_;rotate_left 2;focus(first|(go_simp;done)|(go_simp;refine And.intro ?_ ?_<;>with_reducible rfl)|(go_simp;with_reducible rfl))
 focus(exact(runO (cG.later hbg).now.reads (HI.below (w! HW hbg)) ⟨by omega,by omega⟩).mono (fun e w2 ⟨v,t,S,he,hp,ht,hs,hb⟩=>⟨v,S,he,⟨t,hp,ht⟩,hb,fun k hk=>⟨hs k hk,ht.lt k hk⟩⟩))
 simp only[Act.put,Seven.Known.val,aB,aE,aF];iterate 2 (refine Seven.Grow.made (T:= ?_) rfl rfl (fun wg hbg hdg=> ?_) ?_;rotate_left;(focus((obtain⟨dw,dr,dy⟩:=B4.later hbg);(obtain⟨df,dh,cM⟩:=B5.later hbg);(obtain⟨eb,cB,dc⟩:=B6.later hbg);(obtain⟨dn,db,dt⟩:=B7.later hbg);clear hbg hdg;first|(go_simp;done)|(go_simp;with_reducible rfl)));simp only[Act.put,Seven.Known.val,aB,aE,aF])
 intro wg hb hf;obtain⟨ad,bp,aw,bs⟩:=hf.fact 6 ⟨by omega,rfl⟩;have co:w6.heap.size<=ad:=hf.base 6 ad ⟨by omega,rfl⟩ ((aw ad).2 rfl);have ce:ad≠w.heap.size:=fun e=>by have:=af;omega
 have nB4BA:w.heap.size≠ad:=fun e=>ce e.symm;have bq:ad≠w.heap.size+1:=fun e=>by have:=ae;omega
 have nB5BA:w.heap.size+1≠ad:=fun e=>bq e.symm;have cn:ad≠w2.heap.size:=fun e=>by have:=ak;omega
 have nB6BA:w2.heap.size≠ad:=fun e=>cn e.symm;have cc:ad≠w5.heap.size:=fun e=>by have:=aq;omega
 have nB7BA:w5.heap.size≠ad:=fun e=>cc e.symm;obtain⟨ac,ch,ar,bO⟩:=hf.fact 7 ⟨by omega,rfl⟩;have bt:w6.heap.size<=ac:=hf.base 7 ac ⟨by omega,rfl⟩ ((ar ac).2 rfl);have ci:ac≠w.heap.size:=fun e=>by have:=af;omega
 have nB4BB:w.heap.size≠ac:=fun e=>ci e.symm;have cl:ac≠w.heap.size+1:=fun e=>by have:=ae;omega
 have nB5BB:w.heap.size+1≠ac:=fun e=>cl e.symm;have br:ac≠w2.heap.size:=fun e=>by have:=ak;omega
 have nB6BB:w2.heap.size≠ac:=fun e=>br e.symm;have ck:ac≠w5.heap.size:=fun e=>by have:=aq;omega
 have nB7BB:w5.heap.size≠ac:=fun e=>ck e.symm;have nBABB:ad≠ac:=fun e=>hf.apart 6 7 ⟨by omega,rfl⟩ ⟨by omega,rfl⟩ (by omega) ad ((aw ad).2 rfl) ((ar ad).2 e);have nBBBA:ac≠ad:=fun e=>hf.apart 7 6 ⟨by omega,rfl⟩ ⟨by omega,rfl⟩ (by omega) ac ((ar ac).2 rfl) ((aw ac).2 e);simp only[bp,ch];clear bp ch;have gBA:=aT HW.size co;clear co;have gBB:=aT HW.size bt;clear bt;clear af ag ai ae aj ah ak am al aq bb ba;have hbv:=hb;replace B4:=h! (B4.later hb);replace B5:=h! (B5.later hb);replace B6:=h! (B6.later hb);replace B7:=h! (B7.later hb);replace HG:=h! (HG.later hb);replace HH:=h! (HH.later hb);replace HW:=w! HW hb;clear hb;have BA:=h! bs;clear bs;have BB:=h! bO;clear bO;obtain⟨af,ag,ai⟩:=B4.out;obtain⟨ae,aj,ah⟩:=B5.out;obtain⟨ak,am,al⟩:=B6.out;obtain⟨aq,bb,ba⟩:=B7.out;obtain⟨bc,bh,be⟩:=BA.out;obtain⟨bf,bg,bd⟩:=BB.out;simp only[bM,Nat.reduceAdd];have h2:RanO f i 800 (ν 2).1 (ν 2).2 wg:=hf.fact 2 ⟨by omega,rfl⟩;have h5:RanO g i 800 (ν 5).1 (ν 5).2 wg:=hf.fact 5 ⟨by omega,rfl⟩;have dq:¬(ν 2).2 ad:=fun h=>hf.apart 2 6 ⟨by omega,rfl⟩ ⟨by omega,rfl⟩ (by omega) ad h ((aw _).2 rfl);have ds:¬(ν 2).2 ac:=fun h=>hf.apart 2 7 ⟨by omega,rfl⟩ ⟨by omega,rfl⟩ (by omega) ac h ((ar _).2 rfl);have dp:¬(ν 5).2 ad:=fun h=>hf.apart 5 6 ⟨by omega,rfl⟩ ⟨by omega,rfl⟩ (by omega) ad h ((aw _).2 rfl);have cz:¬(ν 5).2 ac:=fun h=>hf.apart 5 7 ⟨by omega,rfl⟩ ⟨by omega,rfl⟩ (by omega) ac h ((ar _).2 rfl);have da:w6.heap.size<=ad:=hf.base 6 ad ⟨by omega,rfl⟩ ((aw _).2 rfl);have dl:w6.heap.size<=ac:=hf.base 7 ac ⟨by omega,rfl⟩ ((ar _).2 rfl);obtain⟨s,hp,hs⟩:=h2;obtain⟨t,hq,ht⟩:=h5;obtain⟨a1,a2,a3,c1,c2,c3,e2⟩:=hs.forms;obtain⟨d1,d2,d3,g1,g2,g3,e5⟩:=ht.forms;have cr:=h! (aHF bo.1 bo.2.1 cq.1 (fuel:=800) (by omega) hp (by rw[<-cq.2];exact hq) (by rw[<-cq.2];exact bo.2.2.1) (by rw[<-cq.2];exact bo.2.2.2));rw[e2]at hs;rw[e5]at ht;have HS:=h! hs;have HT:=h! ht;have bm:Hid (OffF (fun k=>k=ad\/k=ac) wg wg):=h! (Off.refl _ _);have dj:Hid (∀k,(ν 2).2 k->¬(k=ad\/k=ac)):=h! (fun k hk h=>by rcases h with rfl|rfl;exact dq hk;exact ds hk);have di:Hid (∀k,(ν 5).2 k->¬(k=ad\/k=ac)):=h! (fun k hk h=>by rcases h with rfl|rfl;exact dp hk;exact cz hk);have ea:Hid (OFunc wg S2 (.agg #[.slice ax g.params.length cx,.int .i64 g.arrays,.int .i64 g.cells,.slice bx g.blocks.length dx]) g):=h! HG.now;have cF:Hid (OFunc wg S3 (.agg #[.slice ay g.params.length cy,.int .i64 g.arrays,.int .i64 g.cells,.slice bz g.blocks.length dz]) g):=h! HH.now;simp only[e2,e5];clear hf hp hq hs ht e2 e5 dq ds dp cz aw ar HG HH cG;go_upto_region 6 with(fail);clear af ag ai ae aj ah ak am al aq bb ba bc bh be bf bg bd;have ao:=((((((((Only.set wg (ad) 0 (.int .i64 s.how)).put 1 (.int .i64 s.value)).put 2 (.int .i64 s.trap)).put 3 (.slice a1 s.out.length c1)).put 4 (.slice a2 s.arrays.length c2)).put 5 (.int .i64 s.steps)).put 6 (.int .i64 s.checks)).put 7 (.slice a3 s.visits.length c3));replace B4:=h! (B4.only ao (by first|assumption|(simp;done)|omega));replace B5:=h! (B5.only ao (by first|assumption|(simp;done)|omega));replace B6:=h! (B6.only ao (by first|assumption|(simp;done)|omega));replace B7:=h! (B7.only ao (by first|assumption|(simp;done)|omega));replace BB:=h! (BB.only ao (by first|assumption|(simp;done)|omega));replace bm:=h! ((((((((bm.other (p:=⟨ad,0,none⟩) (.int .i64 s.how) (by simp)).other (p:=⟨ad,1,none⟩) (.int .i64 s.value) (by simp)).other (p:=⟨ad,2,none⟩) (.int .i64 s.trap) (by simp)).other (p:=⟨ad,3,none⟩) (.slice a1 s.out.length c1) (by simp)).other (p:=⟨ad,4,none⟩) (.slice a2 s.arrays.length c2) (by simp)).other (p:=⟨ad,5,none⟩) (.int .i64 s.steps) (by simp)).other (p:=⟨ad,6,none⟩) (.int .i64 s.checks) (by simp)).other (p:=⟨ad,7,none⟩) (.slice a3 s.visits.length c3) (by simp));replace HW:=h! (ao.2.2 HW.out (by first|assumption|omega|(have:=HW.size;omega)|(simp;done)|(simp;omega)));replace BA:=h! (Box.to (A':=#[(.int .i64 s.how),(.int .i64 s.value),(.int .i64 s.trap),(.slice a1 s.out.length c1),(.slice a2 s.arrays.length c2),(.int .i64 s.steps),(.int .i64 s.checks),(.slice a3 s.visits.length c3)]) ((((((((BA.set 0 (.int .i64 s.how)).set 1 (.int .i64 s.value)).set 2 (.int .i64 s.trap)).set 3 (.slice a1 s.out.length c1)).set 4 (.slice a2 s.arrays.length c2)).set 5 (.int .i64 s.steps)).set 6 (.int .i64 s.checks)).set 7 (.slice a3 s.visits.length c3)) (by first|rfl|simp));have bl:((((((((wg.setCell ⟨ad,0,none⟩ (.int .i64 s.how)).setCell ⟨ad,1,none⟩ (.int .i64 s.value)).setCell ⟨ad,2,none⟩ (.int .i64 s.trap)).setCell ⟨ad,3,none⟩ (.slice a1 s.out.length c1)).setCell ⟨ad,4,none⟩ (.slice a2 s.arrays.length c2)).setCell ⟨ad,5,none⟩ (.int .i64 s.steps)).setCell ⟨ad,6,none⟩ (.int .i64 s.checks)).setCell ⟨ad,7,none⟩ (.slice a3 s.visits.length c3)).heap.size=wg.heap.size:=ao.1;clear ao;generalize ((((((((wg.setCell ⟨ad,0,none⟩ (.int .i64 s.how)).setCell ⟨ad,1,none⟩ (.int .i64 s.value)).setCell ⟨ad,2,none⟩ (.int .i64 s.trap)).setCell ⟨ad,3,none⟩ (.slice a1 s.out.length c1)).setCell ⟨ad,4,none⟩ (.slice a2 s.arrays.length c2)).setCell ⟨ad,5,none⟩ (.int .i64 s.steps)).setCell ⟨ad,6,none⟩ (.int .i64 s.checks)).setCell ⟨ad,7,none⟩ (.slice a3 s.visits.length c3))=bn at*;have ao:=((((((((Only.set bn (ac) 0 (.int .i64 t.how)).put 1 (.int .i64 t.value)).put 2 (.int .i64 t.trap)).put 3 (.slice d1 t.out.length g1)).put 4 (.slice d2 t.arrays.length g2)).put 5 (.int .i64 t.steps)).put 6 (.int .i64 t.checks)).put 7 (.slice d3 t.visits.length g3));replace B4:=h! (B4.only ao (by first|assumption|(simp;done)|omega));replace B5:=h! (B5.only ao (by first|assumption|(simp;done)|omega));replace B6:=h! (B6.only ao (by first|assumption|(simp;done)|omega));replace B7:=h! (B7.only ao (by first|assumption|(simp;done)|omega));replace BA:=h! (BA.only ao (by first|assumption|(simp;done)|omega));replace bm:=h! ((((((((bm.other (p:=⟨ac,0,none⟩) (.int .i64 t.how) (by simp)).other (p:=⟨ac,1,none⟩) (.int .i64 t.value) (by simp)).other (p:=⟨ac,2,none⟩) (.int .i64 t.trap) (by simp)).other (p:=⟨ac,3,none⟩) (.slice d1 t.out.length g1) (by simp)).other (p:=⟨ac,4,none⟩) (.slice d2 t.arrays.length g2) (by simp)).other (p:=⟨ac,5,none⟩) (.int .i64 t.steps) (by simp)).other (p:=⟨ac,6,none⟩) (.int .i64 t.checks) (by simp)).other (p:=⟨ac,7,none⟩) (.slice d3 t.visits.length g3) (by simp));replace HW:=h! (ao.2.2 HW.out (by first|assumption|omega|(have:=HW.size;omega)|(simp;done)|(simp;omega)));replace BB:=h! (Box.to (A':=#[(.int .i64 t.how),(.int .i64 t.value),(.int .i64 t.trap),(.slice d1 t.out.length g1),(.slice d2 t.arrays.length g2),(.int .i64 t.steps),(.int .i64 t.checks),(.slice d3 t.visits.length g3)]) ((((((((BB.set 0 (.int .i64 t.how)).set 1 (.int .i64 t.value)).set 2 (.int .i64 t.trap)).set 3 (.slice d1 t.out.length g1)).set 4 (.slice d2 t.arrays.length g2)).set 5 (.int .i64 t.steps)).set 6 (.int .i64 t.checks)).set 7 (.slice d3 t.visits.length g3)) (by first|rfl|simp));have ct:((((((((bn.setCell ⟨ac,0,none⟩ (.int .i64 t.how)).setCell ⟨ac,1,none⟩ (.int .i64 t.value)).setCell ⟨ac,2,none⟩ (.int .i64 t.trap)).setCell ⟨ac,3,none⟩ (.slice d1 t.out.length g1)).setCell ⟨ac,4,none⟩ (.slice d2 t.arrays.length g2)).setCell ⟨ac,5,none⟩ (.int .i64 t.steps)).setCell ⟨ac,6,none⟩ (.int .i64 t.checks)).setCell ⟨ac,7,none⟩ (.slice d3 t.visits.length g3)).heap.size=wg.heap.size:=ao.1.trans bl;clear bl;clear ao;generalize ((((((((bn.setCell ⟨ac,0,none⟩ (.int .i64 t.how)).setCell ⟨ac,1,none⟩ (.int .i64 t.value)).setCell ⟨ac,2,none⟩ (.int .i64 t.trap)).setCell ⟨ac,3,none⟩ (.slice d1 t.out.length g1)).setCell ⟨ac,4,none⟩ (.slice d2 t.arrays.length g2)).setCell ⟨ac,5,none⟩ (.int .i64 t.steps)).setCell ⟨ac,6,none⟩ (.int .i64 t.checks)).setCell ⟨ac,7,none⟩ (.slice d3 t.visits.length g3))=w9 at*;clear ct;obtain⟨af,ag,ai⟩:=B4.out;obtain⟨ae,aj,ah⟩:=B5.out;obtain⟨ak,am,al⟩:=B6.out;obtain⟨aq,bb,ba⟩:=B7.out;obtain⟨bc,bh,be⟩:=BA.out;obtain⟨bf,bg,bd⟩:=BB.out;have bi:Hid (mR w9 (.agg #[.int .i64 s.how,.int .i64 s.value,.int .i64 s.trap,.slice a1 s.out.length c1,.slice a2 s.arrays.length c2,.int .i64 s.steps,.int .i64 s.checks,.slice a3 s.visits.length c3]) s):=h! (HS.off bm.out dj.out).val;have bj:Hid (mR w9 (.agg #[.int .i64 t.how,.int .i64 t.value,.int .i64 t.trap,.slice d1 t.out.length g1,.slice d2 t.arrays.length g2,.int .i64 t.steps,.int .i64 t.checks,.slice d3 t.visits.length g3]) t):=h! (HT.off bm.out di.out).val;have bv:Hid (w6.heap.size<=ad/\w6.heap.size<=ac):=h! ⟨da,dl⟩;have az:=h! (kM (base:=0) (ea.off bm.out (fun k h1 h2=>by have:=eg.out k h1;have:=bv.out;have h3:k=ad\/k=ac:=h2;omega)) (fun _ _=>aL _));have bk:=h! (kM (base:=0) (cF.off bm.out (fun k h1 h2=>by have:=ee.out k h1;have:=bv.out;have h3:k=ad\/k=ac:=h2;omega)) (fun _ _=>aL _));have ed:Hid (mZ s t=true):=h! (by obtain⟨k1,k2,k3,k4,k5,k6,k7⟩:=cr.out;unfold mZ;rw[k1,k2,k3,k4,k5];simp);have q1:(s.steps == t.steps)=true:=by rw[cr.2.2.2.2.2.1];simp
 have q2:(s.checks == t.checks)=true:=by rw[cr.2.2.2.2.2.2];simp
 clear HS HT ea cF da dl dj di bm cr;go_wp2_with fail;refine(aFQ az.now.reads bk.now.reads).mono ?_;rintro e w10 ⟨he,hb⟩;rw[decide_eq_true rfl]at he;subst he;clear af ag ai ae aj ah ak am al aq bb ba bc bh be bf bg bd;replace B4:=h! (B4.later hb);replace B5:=h! (B5.later hb);replace B6:=h! (B6.later hb);replace B7:=h! (B7.later hb);replace BA:=h! (BA.later hb);replace BB:=h! (BB.later hb);replace bi:=h! (bi.later hb);replace bj:=h! (bj.later hb);replace az:=h! (az.later hb);replace bk:=h! (bk.later hb);replace HW:=w! HW hb;clear hb;obtain⟨af,ag,ai⟩:=B4.out;obtain⟨ae,aj,ah⟩:=B5.out;obtain⟨ak,am,al⟩:=B6.out;obtain⟨aq,bb,ba⟩:=B7.out;obtain⟨bc,bh,be⟩:=BA.out;obtain⟨bf,bg,bd⟩:=BB.out;go_wp2_with fail;refine(aNJ az.now.reads).mono ?_;rintro e w11 ⟨r,rfl,hr,hb⟩;obtain rfl:r=true:=hr.2 ⟨bo.2.2.1,bo.2.2.2⟩;clear hr;clear af ag ai ae aj ah ak am al aq bb ba bc bh be bf bg bd;replace B4:=h! (B4.later hb);replace B5:=h! (B5.later hb);replace B6:=h! (B6.later hb);replace B7:=h! (B7.later hb);replace BA:=h! (BA.later hb);replace BB:=h! (BB.later hb);replace bi:=h! (bi.later hb);replace bj:=h! (bj.later hb);replace az:=h! (az.later hb);replace bk:=h! (bk.later hb);replace HW:=w! HW hb;clear hb;obtain⟨af,ag,ai⟩:=B4.out;obtain⟨ae,aj,ah⟩:=B5.out;obtain⟨ak,am,al⟩:=B6.out;obtain⟨aq,bb,ba⟩:=B7.out;obtain⟨bc,bh,be⟩:=BA.out;obtain⟨bf,bg,bd⟩:=BB.out;go_wp2_with fail;refine(aDB (HV.below HW.out) az.now.reads).mono ?_;rintro e w12 ⟨r,rfl,hr,hb⟩;obtain rfl:=aH7 HP.out cw.out hr;clear hr;clear af ag ai ae aj ah ak am al aq bb ba bc bh be bf bg bd;replace B4:=h! (B4.later hb);replace B5:=h! (B5.later hb);replace B6:=h! (B6.later hb);replace B7:=h! (B7.later hb);replace BA:=h! (BA.later hb);replace BB:=h! (BB.later hb);replace bi:=h! (bi.later hb);replace bj:=h! (bj.later hb);replace az:=h! (az.later hb);replace bk:=h! (bk.later hb);replace HW:=w! HW hb;clear hb;obtain⟨af,ag,ai⟩:=B4.out;obtain⟨ae,aj,ah⟩:=B5.out;obtain⟨ak,am,al⟩:=B6.out;obtain⟨aq,bb,ba⟩:=B7.out;obtain⟨bc,bh,be⟩:=BA.out;obtain⟨bf,bg,bd⟩:=BB.out;go_wp2_with fail;refine(aDB az.now.reads (HV.below HW.out)).mono ?_;rintro e w13 ⟨r,rfl,hr,hb⟩;obtain rfl:=aFI HP.out cw.out hr;clear hr;clear af ag ai ae aj ah ak am al aq bb ba bc bh be bf bg bd;replace B4:=h! (B4.later hb);replace B5:=h! (B5.later hb);replace B6:=h! (B6.later hb);replace B7:=h! (B7.later hb);replace BA:=h! (BA.later hb);replace BB:=h! (BB.later hb);replace bi:=h! (bi.later hb);replace bj:=h! (bj.later hb);replace az:=h! (az.later hb);replace bk:=h! (bk.later hb);replace HW:=w! HW hb;clear hb;obtain⟨af,ag,ai⟩:=B4.out;obtain⟨ae,aj,ah⟩:=B5.out;obtain⟨ak,am,al⟩:=B6.out;obtain⟨aq,bb,ba⟩:=B7.out;obtain⟨bc,bh,be⟩:=BA.out;obtain⟨bf,bg,bd⟩:=BB.out;go_wp2_with fail;refine(aH4 bi.out bj.out).mono ?_;rintro e w14 ⟨rfl,hb⟩;rw[ed.out];clear af ag ai ae aj ah ak am al aq bb ba bc bh be bf bg bd;replace B4:=h! (B4.later hb);replace B5:=h! (B5.later hb);replace B6:=h! (B6.later hb);replace B7:=h! (B7.later hb);replace BA:=h! (BA.later hb);replace BB:=h! (BB.later hb);replace bi:=h! (bi.later hb);replace bj:=h! (bj.later hb);replace az:=h! (az.later hb);replace bk:=h! (bk.later hb);replace HW:=w! HW hb;clear hb;obtain⟨af,ag,ai⟩:=B4.out;obtain⟨ae,aj,ah⟩:=B5.out;obtain⟨ak,am,al⟩:=B6.out;obtain⟨aq,bb,ba⟩:=B7.out;obtain⟨bc,bh,be⟩:=BA.out;obtain⟨bf,bg,bd⟩:=BB.out;go_wp2;go_ret;exact⟨rfl,HW.out⟩
end
end Go.Proofs.YtagabiidbbhhmaaGreat
