/- Part 39. -/
import Derived.Test.YtagabiidbbhhmaaGreatET38
import Derived.Test.YtagabiidbbhhmaaGreatET35
namespace Go.Proofs.YtagabiidbbhhmaaGreat
set_option maxHeartbeats 25600000
set_option linter.all false
set_option maxRecDepth 100000
open Go.RowKit
private theorem iG.alloc{w0 W:World}(h:iG w0 W)(o:Obj):iG w0 (W.alloc o):=h.later ((Below.refl _ _).alloc (aC _) o)
def aFF(f:FuncD)(w:World)(e:Ending)(w':World):Prop:=
 ∃b g:Int,e=.returned (.tuple #[.int .i64 b,.int .i64 g])/\(fO f≠0->b=0/\g=fO f)/\(fO f=0->gE f b g)/\Below w.heap.size w w'
theorem aMK{f:FuncD}{u:UseD}{d k:Int}(h:((entF f).find? fun e=>e.1 == u.id)=some (u.id,d,k)):iZ f u↔((u.pos<0/\lQ f d.toNat u.src.toNat)\/(¬u.pos<0/\mH f d k u.blk u.pos)):=
 ⟨fun⟨d2,k2,h2,h3⟩=>by rw[h]at h2;cases h2;exact h3,fun h3=>⟨d,k,h,h3⟩⟩
theorem aFG{w:World}{v:Value}{f:FuncD}(hv:gS w v f):Calls Tryz.prog 38 #[v] w (aFF f w):=by
 have HV:=h! hv;obtain⟨ap,cp,ab,cb,rfl,hp,ha,hc,hB⟩:=hv.form;obtain⟨a2,c2,bb,bo,ee,ey,hbm,fi,cq,dh⟩:=fW hB
 cases ee;have eg:Hid (fO f=0->1<=f.blocks.length/\f.blocks.length<=512):=h! (fun h=>jH (fT h).1);obtain⟨np,cl⟩:∃np,np=f.params.length:=⟨_,rfl⟩;obtain⟨ar,cn⟩:∃ar,ar=f.arrays:=⟨_,rfl⟩;obtain⟨ce,bw⟩:∃ce,ce=f.cells:=⟨_,rfl⟩;obtain⟨nb,be⟩:∃nb,nb=f.blocks.length:=⟨_,rfl⟩;rw[<-be,<-cl,<-cn,<-bw]at HV;rw[<-be]at ey cq fi;rw[<-be,<-cl,<-cn,<-bw];have ag:=h! be;have fs:=h! cq;have eb:=h! dh;clear hp ha hc hB hv dh cl be cq cn bw;go_enter Tryz.func38,Tryz.ntmps38;go_upto_region 1 with(fail);have az:=(Below.refl w.heap.size w).alloc (aC _) (.cells #[.slice ap np cp,.int .i64 ar,.int .i64 ce,.slice ab nb cb] 25);have HW:=h! az;clear az;have B1:=h! (Box.new w #[.slice ap np cp,.int .i64 ar,.int .i64 ce,.slice ab nb cb] 25);generalize w.alloc (.cells #[.slice ap np cp,.int .i64 ar,.int .i64 ce,.slice ab nb cb] 25)=wv at*;obtain⟨aa,ac,ad⟩:=B1.out;go_wp2_with fail;refine(aGN (HV.below HW.out)).mono ?_;rintro e w1 ⟨rfl,hb⟩;clear aa ac ad;replace B1:=h! (B1.later hb);replace HW:=w! HW hb;clear hb;obtain⟨aa,ac,ad⟩:=B1.out;by_cases hc0:fO f=0
 ·have al:=h! hc0;obtain⟨ek,bO⟩:=eg.out hc0;rw[<-ag.out]at ek bO;have ff:(fO f != 0)=false:=by simpa using hc0
  have HF:=h! (fT hc0).1;clear hc0;obtain⟨rfl,dw⟩:=fs.out (by omega);go_wp2_with fail;refine(qA (gone:= -1) (HV.below HW.out) HF.out).mono ?_;rintro e w2 ⟨sv,S,rfl,hS,dm,hb⟩;have HS:=h! hS;obtain⟨sa,sc,sb,so,cG,fo,hsm,cv,cL⟩:=dm.parts;have cc:S.length=nb:=by rw[hS.1,ag.out]
  rw[cc]at cG fo cv;subst cG;obtain⟨rfl,cM⟩:=cv (by omega);obtain⟨W2,bp⟩:∃W2,W2=w2:=⟨_,rfl⟩;have fj:Hid (∀(j:Nat) (x:Bool),S[j]? =some x->W2.cell? ⟨sb,so+j,none⟩=some (.bool x)):=h! (by rw[bp];exact cL);have er:=h! cc;rw[<-bp]at cM;have dj:Hid (iG W2 w2):=h! (by rw[bp];exact Below.refl _ _);clear hS dm cL cv cc bp;clear aa ac ad;replace B1:=h! (B1.later hb);replace HW:=w! HW hb;clear hb;obtain⟨aa,ac,ad⟩:=B1.out;go_wp2_with fail;go_loopw [6] (fun i wr=>∃c:Nat,c<=nb/\i=.int .i64 c/\(∀d,d<c->Way (toB f) (-1) d)/\wr=w2) (fun i _=>nb - (intOf i).toNat)
  case atStart=>exact⟨0,aL _,rfl,fun d h=>absurd h (eT _),rfl⟩
  obtain⟨c,hc,rfl,af,he⟩:=hrel;subst he;have ax:=h! af;clear af;by_cases hlt:c<nb
  ·obtain⟨x,hx⟩:∃x,S[c]? =some x:=⟨_,aA (by rw[er.out];exact hlt)⟩;have d1:=(Below.cell dj.out (p:=⟨sb,so+c,none⟩) cM).trans (fj c x hx);have hw:=HS.2 c;rw[hx]at hw;have dl:=h! hw;clear hx hw
   cases x
   ·have aj:Hid (gE f c 4):=h! (.inl ⟨c,by rw[<-ag.out];exact hlt,(fun h=>by have:=dl.2 h;cases this),ax.out,rfl,rfl⟩);go_wp2;go_ret2;exact⟨_,_,rfl,(fun h=>absurd al.out h),(fun _=>aj.out),HW.out⟩
   have am:Hid (∀d,d<c+1->Way (toB f) (-1) d):=h! (fun d hd=>by
    by_cases e:d=c
    ·subst e;exact dl.1 rfl
    exact ax d (by omega))
   go_wp2;go_roundw
   case rel=>exact⟨c+1,hlt,by go_num,am.out,by first|rfl|trivial⟩
   simp[intOf];omega
  have ak:Hid (∀d,d<f.blocks.length->Way (toB f) (-1) d):=h! (fun d hd=>ax d (by rw[<-ag.out]at hd;omega));go_wp2_with fail;refine(aGG (HV.below HW.out) HF.out).mono ?_;rintro e w3 ⟨pv,rfl,di,hb⟩;obtain⟨fb,pa,pc,pb,po,dq,dx,hpm,ej,ct,bq,br⟩:=di.parts;have bj:(iX f).length=nb:=by unfold iX;rw[jL,ag.out]
  rw[bj]at dq dx ct ej bq br;obtain⟨rfl,dg⟩:=ct (by omega);subst dq;obtain⟨W3,bv⟩:∃W3,W3=w3:=⟨_,rfl⟩;rw[<-bv]at bq br dg;have ev:=h! bq;have fl:=h! br;have ai:Hid (iG W3 w3):=h! (by rw[bv];exact Below.refl _ _);clear bq br ct bj di bv dj;clear aa ac ad;replace B1:=h! (B1.later hb);replace HW:=w! HW hb;clear hb;obtain⟨aa,ac,ad⟩:=B1.out;go_wp2_with fail;go_loopw [8] (fun i wr=>∃c:Nat,c<=nb/\i=.int .i64 c/\(∀(d:Nat) (y:BlockD),d<c->f.blocks[d]? =some y->y.phis.all (gJ (natI (gT f f.blocks.length 0 d)))=true)/\iG W3 wr/\Below w.heap.size w wr/\Box wr w.heap.size #[.slice ap np cp,.int .i64 ar,.int .i64 ce,.slice (some ⟨bb,bo,none⟩) nb cb]) (fun i _=>nb - (intOf i).toNat)
  case atStart=>exact⟨0,aL _,rfl,fun d y h=>absurd h (eT _),ai.out,HW.out,B1.out⟩
  obtain⟨c,hc,rfl,af,hS,hW,h1⟩:=hrel;clear aa ac ad;have bt:=h! af;replace ai:=h! hS;replace HW:=h! hW;replace B1:=h! h1;clear af hS hW h1;generalize wr=w4 at*;obtain⟨aa,ac,ad⟩:=B1.out;by_cases hlt:c<nb
  ·obtain⟨x,ch⟩:∃x,f.blocks[c]? =some x:=⟨_,aA (by have:=ag.out;omega)⟩;obtain⟨ez,fa,fk,dz,ew,fe,hC⟩:=eb.out c x ch;have cB:=h! ch;have HC:=h! hC;obtain⟨ps,cr⟩:∃ps,ps=gT f f.blocks.length 0 c:=⟨_,rfl⟩;have dd:(iX f).getD c []=natI ps:=by rw[cr,aH];unfold iX;rw[mG (by rw[<-ag.out];exact hlt)];rfl
   have cf:Ints W3 (fb.getD c undef) (natI ps):=by have h9:=fl.out c hlt;rwa[dd]at h9
   have CP:=h! ((Below.cell ai.out (p:=⟨pb,po+c,none⟩) dg).trans (ev c hlt));have cz:=World.block_lt_of_cell? w4 _ CP.out;have dv:=h! cf;have ds:=h! cr;obtain⟨qa,qc,cg⟩:=cf.form;obtain⟨ql,cy⟩:∃ql,ql=(natI ps).length:=⟨_,rfl⟩;rw[<-cy]at cg;rw[cg]at CP dv;obtain⟨k,hk⟩:∃k,k=x.phis.all (gJ (natI ps)):=⟨_,rfl⟩;have HK:=h! hk;have ex:Hid (∀wg,Below w4.heap.size w4 wg->Calls Tryz.prog 76 #[.agg #[.slice ez x.phis.length dz,.slice fa x.code.length ew,.int .i64 x.term.op,.int .i64 x.term.val,.slice fk x.term.to.length fe,.int .i64 x.term.n],.slice qa ql qc] wg fun e w'=>e=.returned (.bool k)/\Below wg.heap.size wg w'):=h! (fun wg hbg=>by rw[hk];exact aK3 (HC.phis.below PhiR.lasting (w! HW hbg)) (dv.below (iG.later ai.out hbg)));clear ch hC cr dd cf cg cy hk;go_upto_region 14 with(fail);refine wp_region_grow 11 (fun kz=>match kz with|9=>.const (.bool k)|_=>.plain) (by kernel_rfl) (by kernel_rfl) ?_ (fun ν=> ?_)
   ·(intro k;(try dsimp only);split<;>first|exact True.intro|(intro u w1 w2 hu hb;exact hu.below hb))
   simp only[aP,aU,aR,aV];iterate 9 (refine Grow.val (v:= ?_) rfl rfl (fun wg hbg hdg=> ?_) ?_;rotate_left;(focus((obtain⟨fm,fd,fq⟩:=B1.later hbg);(obtain⟨k0,k1,k2,k3,k4,k5,-,-,-,-,-,-⟩:=HC.below (w! HW hbg) dw;have fc:=(hbg.cell (p:=⟨pb,po+c,none⟩) cz).trans CP.out);clear hbg hdg;first|(go_simp;done)|(go_simp;with_reducible rfl)));simp only[Act.put,aB,aE,aF])
   refine Grow.call (f:= ?_) (args:= ?_) rfl (fun wg=> ?_) (fun wg hbg hdg=> ?_) ?_;rotate_left 2;focus(first|(go_simp;done)|(go_simp;refine And.intro ?_ ?_<;>with_reducible rfl)|(go_simp;with_reducible rfl))
   focus exact Calls.mono (ex wg hbg) (fun e w2 ⟨he,hb2⟩=>⟨_,he,rfl,hb2⟩)
   simp only[Act.put,Known.val,aB,aE,aF];refine Grow.val (v:= ?_) rfl rfl (fun wg hbg hdg=> ?_) ?_;rotate_left;focus((obtain⟨fm,fd,fq⟩:=B1.later hbg);(obtain⟨k0,k1,k2,k3,k4,k5,-,-,-,-,-,-⟩:=HC.below (w! HW hbg) dw;have fc:=(hbg.cell (p:=⟨pb,po+c,none⟩) cz).trans CP.out);clear hbg hdg;first|(go_simp;done)|(go_simp;with_reducible rfl))
   simp only[Act.put,aB,aE,aF];intro wg hb hf fg;clear fg;clear aa ac ad;replace B1:=h! (B1.later hb);replace ai:=h! (ai.later hb);replace HW:=w! HW hb;clear hb;obtain⟨aa,ac,ad⟩:=B1.out;clear hf
   cases k
   ·have aj:Hid (gE f c 5):=h! (.inr ⟨ak.out,.inl ⟨c,x,cB.out,by rw[<-ds.out];exact HK.symm,bt.out,rfl,rfl⟩⟩);go_wp2;go_ret2;exact⟨_,_,rfl,(fun h=>absurd al.out h),(fun _=>aj.out),HW.out⟩
   have am:Hid (∀(d:Nat) (y:BlockD),d<c+1->f.blocks[d]? =some y->y.phis.all (gJ (natI (gT f f.blocks.length 0 d)))=true):=h! (fun d y hd hy=>by
    by_cases e:d=c
    ·subst e;rw[cB.out]at hy
     cases hy;rw[<-ds.out];exact HK.symm
    exact bt d y (by omega) hy)
   go_wp2;go_roundw
   case rel=>exact⟨c+1,hlt,by go_num,am.out,ai.out,HW.out,B1.out⟩
   simp[intOf];omega
  have bl:Hid (∀(d:Nat) (y:BlockD),f.blocks[d]? =some y->y.phis.all (gJ (natI (gT f f.blocks.length 0 d)))=true):=h! (fun d y hy=>bt d y (by have:=(aD.1 hy).1;rw[<-ag.out]at this;omega) hy);go_wp2_with fail;refine(aK2 (HV.below HW.out) HF.out).mono ?_;rintro e w5 ⟨ov,rfl,da,hb⟩;have dy:=h! da;clear da;clear aa ac ad;replace B1:=h! (B1.later hb);replace ai:=h! (ai.later hb);replace HW:=w! HW hb;clear hb;obtain⟨aa,ac,ad⟩:=B1.out;go_wp2_with fail;refine(aD3 (HV.below HW.out) (kY HF.out)).mono ?_;rintro e w6 ⟨uv,rfl,df,hb⟩;obtain⟨oc,ob,oo,rfl,en,hom,bx,ah⟩:=(dy.below hb).parts (by rw[<-ag.out];omega);rw[<-ag.out]at en ah;have em:=aCU (kY HF.out);have dc:Row w6 uv (uxF f).length 5 (kU (uxF f)):=Row.of_own df (by omega);obtain⟨xa,xc,xb,xo,rfl,ef,hxm,ck,bs⟩:=dc.parts;obtain⟨m,hm⟩:∃m,m=(uxF f).length:=⟨_,rfl⟩;rw[<-hm]at em ef⊢;obtain⟨W6,co⟩:∃W6,W6=w6:=⟨_,rfl⟩;rw[<-co]at ah bx ck bs;have bi:=h! ah;have ea:=h! ck;have bg:=h! bs;have HM:=h! hm;have ae:Hid (iG W6 w6):=h! (by rw[co];exact Below.refl _ _);rw[<-ag.out];clear aa ac ad;replace B1:=h! (B1.later hb);replace ai:=h! (ai.later hb);replace HW:=w! HW hb;clear hb;obtain⟨aa,ac,ad⟩:=B1.out;clear ah ck bs df dc co hm;replace ai:=ae;go_wp2_with fail;go_loopw [11] (fun i wr=>∃c:Nat,c<=m/\i=.int .i64 c/\(∀v∈(uxF f).take c,iZ f v)/\iG W6 wr/\Below w.heap.size w wr/\Box wr w.heap.size #[.slice ap np cp,.int .i64 ar,.int .i64 ce,.slice (some ⟨bb,bo,none⟩) nb cb]) (fun i _=>m - (intOf i).toNat)
  case atStart=>exact⟨0,aL _,rfl,by simp,ae.out,HW.out,B1.out⟩
  obtain⟨c,hc,rfl,af,hS,hW,h1⟩:=hrel;clear aa ac ad;have aw:=h! af;clear ai;replace ae:=h! hS;replace HW:=h! hW;replace B1:=h! h1;clear af hS hW h1;generalize wr=w7 at*;obtain⟨aa,ac,ad⟩:=B1.out;by_cases hlt:c<m
  ·obtain⟨u,hu⟩:∃u,(uxF f)[c]? =some u:=⟨_,aA (by have:=HM.out;omega)⟩;obtain⟨x0,x1,x2,x3,x4⟩:=vC _ _ _ hu;obtain⟨rfl,bf⟩:=ea.out (by have:=(aD.1 x0).1;omega);have e0:=(Below.cell ae.out (p:=⟨xb,xo+c*5,none⟩) bf).trans (bg _ _ x0);have e1:=(Below.cell ae.out (p:=⟨xb,xo+(c*5+1),none⟩) bf).trans (bg _ _ x1);have e2:=(Below.cell ae.out (p:=⟨xb,xo+(c*5+2),none⟩) bf).trans (bg _ _ x2);have e3:=(Below.cell ae.out (p:=⟨xb,xo+(c*5+3),none⟩) bf).trans (bg _ _ x3);have e4:=(Below.cell ae.out (p:=⟨xb,xo+(c*5+4),none⟩) bf).trans (bg _ _ x4);rw[<-Nat.add_assoc]at e1 e2 e3 e4;have cm:=aG hu;obtain⟨d,k,de,ei,ed⟩:=pX al.out cm;obtain⟨fh,ec,cF⟩:=wV HF.out cm;obtain⟨dn,rfl⟩:∃dn:Nat,d=(dn:Int):=⟨d.toNat,by omega⟩;obtain⟨bn,bz⟩:∃bn:Nat,u.blk=(bn:Int):=⟨u.blk.toNat,by omega⟩;have et:dn<nb:=by have:=ag.out;omega
   have cd:bn<nb:=by have:=ag.out;omega
   obtain⟨ra,bd,bc,ay⟩:=bi.out dn et;obtain⟨y,dr,dt⟩:=ay bn cd;have cs:=h! de;have HU:=h! hu;have cw:=h! (fR _ _ _ hu);have bm:=h! bz;have dp:=h! bd;have fp:=h! dr;have ft:=h! dt;have ep:=h! ay;have es:=h! cF;rw[bz]at e2;clear hu x0 x1 x2 x3 x4 cm de ei ed fh ec cF bz bd ay dr dt;go_upto_region 22 with(fail);have ba:w7.heap.size≠w.heap.size:=fun e=>by have:=aa;omega
   have nB1BU:w.heap.size≠w7.heap.size:=fun e=>ba e.symm;clear aa ac ad;have az:=(Below.refl w7.heap.size w7).alloc (aC _) (.cells #[.int .i64 u.id,.int .i64 u.typ,.int .i64 bn,.int .i64 u.pos,.int .i64 u.src] 40);replace B1:=h! (B1.later az);replace ae:=h! (ae.later az);replace HW:=w! HW az;clear az;have BU:=h! (Box.new w7 #[.int .i64 u.id,.int .i64 u.typ,.int .i64 bn,.int .i64 u.pos,.int .i64 u.src] 40);generalize w7.alloc (.cells #[.int .i64 u.id,.int .i64 u.typ,.int .i64 bn,.int .i64 u.pos,.int .i64 u.src] 40)=w8 at*;obtain⟨aa,ac,ad⟩:=B1.out;obtain⟨aq,ao,an⟩:=BU.out;clear e0 e1 e2 e3 e4;go_wp2_with fail;refine(aMW (id:=u.id) (HV.below HW.out)).mono ?_;rintro e w9 ⟨b9,k9,eh,rfl,bh,hb⟩;have bk:b9=(dn:Int)/\k9=k/\eh=true:=by
    rcases bh with⟨e,he,h1,h2,h3⟩|⟨he,_⟩
    ·rw[cs.out]at he
     cases he;exact⟨h1,h2,h3⟩
    rw[cs.out]at he;cases he
   obtain⟨rfl,rfl,rfl⟩:=bk;clear bh;clear aa ac ad aq ao an;replace B1:=h! (B1.later hb);replace BU:=h! (BU.later hb);replace ae:=h! (ae.later hb);replace HW:=w! HW hb;clear hb;obtain⟨aa,ac,ad⟩:=B1.out;obtain⟨aq,ao,an⟩:=BU.out;have d1:=(Below.cell ae.out (p:=⟨ob,oo+dn,none⟩) bx).trans dp.out;have d2:=(Below.cell ae.out (p:=⟨ra,bn,none⟩) bc).trans fp.out;go_upto_region 23 with(fail);go_quiet (fail);clear aa ac ad aq ao an;clear d1 d2;replace HW:=h! (fS HW.out nq);replace ae:Hid (iG W6 (w9.drewN nq)):=h! (fS ae.out nq);replace B1:=h! (B1.drewN nq);replace BU:=h! (BU.drewN nq);generalize w9.drewN nq=wq at*;obtain⟨aa,ac,ad⟩:=B1.out;obtain⟨aq,ao,an⟩:=BU.out;have ci:Hid (iZ f u↔((u.pos<0/\lQ f dn u.src.toNat)\/(¬u.pos<0/\mH f dn k9 bn u.pos))):=h! (by rw[aMK cs.out,bm.out];rfl);by_cases hpos:u.pos<0
   ·obtain⟨s0,s1⟩:=es.out hpos;obtain⟨sn,cx⟩:∃sn:Nat,u.src=(sn:Int):=⟨u.src.toNat,by omega⟩;have cj:sn<nb:=by have:=ag.out;omega
    obtain⟨z,dk,db⟩:=ep.out sn cj;have HZ:Hid (z=true↔iZ f u):=h! (by rw[db,ci.out,cx,bW];exact⟨fun h=>.inl ⟨hpos,h⟩,fun h=>h.elim (fun h=>h.2) (fun h=>absurd hpos h.1)⟩);have d1:=(Below.cell ae.out (p:=⟨ob,oo+dn,none⟩) bx).trans dp.out;have d2:=(Below.cell ae.out (p:=⟨ra,sn,none⟩) bc).trans dk;rw[cx]at BU;clear aq ao an;obtain⟨aq,ao,an⟩:=BU.out;clear dk db s0 s1 cx;go_upto_region 25 with(fail);go_quiet (fail);clear aa ac ad aq ao an;clear d1 d2;replace HW:=h! (fS HW.out nq);replace ae:Hid (iG W6 (wq.drewN nq)):=h! (fS ae.out nq);replace B1:=h! (B1.drewN nq);replace BU:=h! (BU.drewN nq);generalize wq.drewN nq=wz at*;obtain⟨aa,ac,ad⟩:=B1.out;obtain⟨aq,ao,an⟩:=BU.out
    cases z
    ·have aj:Hid (gE f bn 6):=h! (.inr ⟨ak.out,.inr ⟨bl.out,.inl ⟨c,u,HU.out,(fun h=>by have:=HZ.2 h;cases this),aw.out,bm.symm,rfl⟩⟩⟩);go_wp2;go_ret2;exact⟨_,_,rfl,(fun h=>absurd al.out h),(fun _=>aj.out),HW.out⟩
    have am:Hid (∀v∈(uxF f).take (c+1),iZ f v):=h! (by
     rw[cw.out];intro v hv;rcases aJ.1 hv with hv|hv
     ·exact aw v hv
     simp at hv;subst hv;exact HZ.1 rfl)
    go_wp2;go_roundw
    case rel=>exact⟨c+1,hlt,by go_num,am.out,ae.out,HW.out,B1.out⟩
    simp[intOf];omega
   by_cases hdb:dn=bn
   ·have hq:((dn:Int) == (bn:Int))=true:=by simp[hdb]
    obtain⟨z,hz⟩:∃z,z=decide (k9<u.pos):=⟨_,rfl⟩;have HZ:Hid (z=true↔iZ f u):=h! (by rw[hz,decide_eq_true_iff,ci.out];unfold mH;exact⟨fun h=>.inr ⟨hpos,.inl ⟨by omega,h⟩⟩,fun h=>h.elim (fun h=>absurd h.1 hpos) (fun h=>h.2.elim (fun h=>h.2) (fun h=>absurd (by omega) h.1))⟩);have eo:=h! hdb;clear hdb;by_cases hkp:k9<u.pos
    ·have ca:z=true:=by rw[hz];exact decide_eq_true hkp
     subst ca;clear hz;have am:Hid (∀v∈(uxF f).take (c+1),iZ f v):=h! (by
      rw[cw.out];intro v hv;rcases aJ.1 hv with hv|hv
      ·exact aw v hv
      simp at hv;subst hv;exact HZ.1 rfl)
     go_wp2;go_roundw
     case rel=>exact⟨c+1,hlt,by go_num,am.out,ae.out,HW.out,B1.out⟩
     simp[intOf];omega
    have ca:z=false:=by rw[hz];exact decide_eq_false hkp
    subst ca;clear hz;have aj:Hid (gE f bn 6):=h! (.inr ⟨ak.out,.inr ⟨bl.out,.inl ⟨c,u,HU.out,(fun h=>by have:=HZ.2 h;cases this),aw.out,bm.symm,rfl⟩⟩⟩);go_wp2;go_ret2;exact⟨_,_,rfl,(fun h=>absurd al.out h),(fun _=>aj.out),HW.out⟩
   have hq:((dn:Int) == (bn:Int))=false:=by simp;omega
   have HZ:Hid (y=true↔iZ f u):=h! (by rw[ft.out,ci.out];unfold mH;exact⟨fun h=>.inr ⟨hpos,.inr ⟨by omega,by simpa using h⟩⟩,fun h=>h.elim (fun h=>absurd h.1 hpos) (fun h=>h.2.elim (fun h=>absurd h.1 (by omega)) (fun h=>by simpa using h.2))⟩);have eo:=h! hdb;clear hdb
   cases y
   ·have aj:Hid (gE f bn 6):=h! (.inr ⟨ak.out,.inr ⟨bl.out,.inl ⟨c,u,HU.out,(fun h=>by have:=HZ.2 h;cases this),aw.out,bm.symm,rfl⟩⟩⟩);go_wp2;go_ret2;exact⟨_,_,rfl,(fun h=>absurd al.out h),(fun _=>aj.out),HW.out⟩
   have am:Hid (∀v∈(uxF f).take (c+1),iZ f v):=h! (by
    rw[cw.out];intro v hv;rcases aJ.1 hv with hv|hv
    ·exact aw v hv
    simp at hv;subst hv;exact HZ.1 rfl)
   go_wp2;go_roundw
   case rel=>exact⟨c+1,hlt,by go_num,am.out,ae.out,HW.out,B1.out⟩
   simp[intOf];omega
  have aj:Hid (gE f 0 0):=h! (.inr ⟨ak.out,.inr ⟨bl.out,.inr ⟨by have h9:=aw.out;rw[aI (by have:=HM.out;omega)]at h9;exact h9,rfl,rfl⟩⟩⟩);go_wp2;go_ret2;exact⟨_,_,rfl,(fun h=>absurd al.out h),(fun _=>aj.out),HW.out⟩
 have ff:(fO f != 0)=true:=by simpa using hc0
 have al:=h! hc0;clear hc0;go_wp2;go_ret2;exact⟨0,fO f,rfl,(fun _=>⟨rfl,rfl⟩),(fun h=>absurd h al.out),HW.out⟩
theorem yH:Enters Tryz.prog 144:=enters_of Tryz.func144 (by kernel_rfl) rfl
def aFH(f:FuncD)(d k b at_:Int)(w:World)(e:Ending)(w':World):Prop:=∃r:Bool,e=.returned (.bool r)/\(r=true↔¬mH f d k b at_)/\Below w.heap.size w w'
theorem aNI{f:FuncD}{w:World}{bs bt bg lg lcap bm:Nat}{g:Array Value}{pv ov lv A2:Value}{O:List Nat}{I:Nat->Option Nat}(hS:StrM f w bs bt bg lg lcap bm g pv ov lv A2 O I)(hO:fQ f O)(hD:DomI f O I)(hc:fO f=0)
  {id d k b at_:Int} {b1 b2 b3:Nat} (he:((entF f).find? fun e=>e.1 == id)=some (id,d,k)) (hd:0<=d/\d<(f.blocks.length:Int)) (hb:0<=b/\b<(f.blocks.length:Int))
  (h1:Box w b1 #[.pointer (some ⟨bs,0,none⟩)]) (h2:Box w b2 #[.int .i64 b]) (h3:Box w b3 #[.int .i64 at_]):
  Calls Tryz.prog 144 #[.int .i64 id,.pointer (some ⟨b1,0,none⟩),.pointer (some ⟨b2,0,none⟩),.pointer (some ⟨b3,0,none⟩)] w (aFH f d k b at_ w):=by
 have HA:=h! (ahead hS hO hD hc (at_:=at_) he hd hb);obtain⟨l1,c1,f1⟩:=h1;obtain⟨l2,c2,f2⟩:=h2;obtain⟨l3,c3,f3⟩:=h3;clear hS hO hD hc he hd hb;go_enter Tryz.func144,Tryz.ntmps144;go_wp2_with fail;refine HA.mono ?_;rintro e w2 ⟨r,rfl,hr,hb⟩;have HR:=h! hr;have HB:=h! hb;clear hr hb
 cases r
 ·go_wp2;go_ret;exact⟨true,rfl,⟨(fun _ h=>by have:=HR.2 h;simp at this),(fun _=>rfl)⟩,HB.out⟩
 ·go_wp2;go_ret;exact⟨false,rfl,⟨(fun h=>by cases h),(fun h=>absurd (HR.1 (by trivial)) h)⟩,HB.out⟩
end Go.Proofs.YtagabiidbbhhmaaGreat
