/- Part 16. -/
import Derived.Test.YtagabiidbbhhmaaGreatET15
namespace Go.Proofs.YtagabiidbbhhmaaGreat
set_option linter.all false
set_option maxRecDepth 100000
open Go.RowKit
theorem aCS{w:World}{v:Value}{f:FuncD}(hv:gS w v f):Calls Tryz.prog 69 #[v] w fun e w'=>e=.returned (.bool (gX f))/\Below w.heap.size w w':=by
 cases h:kA f
 ·have h2:gX f=false:=by unfold gX;rw[h];rfl
  rw[h2];exact xM hv h
 have h2:gX f=(f.params.all mP&&f.blocks.zipIdx.all (gV f.blocks.length f.arrays f.cells)):=by unfold gX;rw[h];rfl
 unfold kA at h;simp only[aK,decide_eq_true_eq]at h;obtain⟨⟨⟨⟨⟨⟨⟨q1,q2⟩,q3⟩,q4⟩,q5⟩,q6⟩,q7⟩,q8⟩:=h;obtain⟨ap,cp,ab,cb,rfl,hp,ha,hc,hB⟩:=hv.form;exact tS rfl rfl rfl rfl hp hB ha hc q1 ⟨q2,q3⟩ ⟨q4,q5⟩ ⟨q6,q7⟩ q8 h2
def defP(p:PhiD):List (Int×Int):=[(p.id,p.typ)]
theorem sT(b:BlockD):iT b=b.phis.flatMap defP++b.code.flatMap defI:=by unfold iT;rw[wI,<-wH];rfl
theorem kJ{α β:Type}(g:α->List β)(l:List α)(j:Nat):((l.take j).flatMap g).length<=(l.flatMap g).length:=by
 have h:=dJ j l;have h2:(l.flatMap g).length=((l.take j).flatMap g).length+((l.drop j).flatMap g).length:=by rw[<-List.length_append,<-List.flatMap_append,h]
 omega
def mT(T:List (Int×Int)):List Value:=T.flatMap fun p=>[.int .i64 p.1,.int .i64 p.2]
theorem oS(T:List (Int×Int))(a b:Int):mT (T++[(a,b)])=mT T++[.int .i64 a,.int .i64 b]:=by unfold mT;simp
theorem aIZ:Elem Tryz.prog 101 104 (.agg #[.int .i64 0,.int .i64 0]) 2 16:=oC Tryz.underlying101 (by kernel_rfl) rfl (by omega)
def aMZ(T:List (Int×Int))(w:World)(e:Ending)(w':World):Prop:=∃u,e=.returned u/\w'.ownsRow w.heap.size 104 2 u T.length (mT T)/\Below w.heap.size w w'
set_option maxHeartbeats 12800000 in
theorem qX{w:World}{v:Value}{f:FuncD}(hv:gS w v f)(hsm:(fX f).length<=8192):Calls Tryz.prog 52 #[v] w (aMZ (fX f) w):=by
 obtain⟨ap,cp,ab,cb,rfl,hp,ha,hc,hB⟩:=hv.form;obtain⟨a1,c1,pb,po,ec,dp,hpm,dd,db⟩:=hp.parts
 cases ec;obtain⟨a2,c2,bb,bo,ds,ee,hbm,ei,da,dj⟩:=fW hB
 cases ds;have dn:Hid (∀j x,f.blocks[j]? =some x->(parT f.params++(f.blocks.take j).flatMap iT).length+(x.phis.flatMap defP).length+(x.code.flatMap defI).length<=8192):=h! (fun j x hj=>by
  have h1:=kJ iT f.blocks (j+1);rw[iO _ _ _ _ hj,aO,sT x,aO]at h1;have h2:(fX f).length=(parT f.params).length+(f.blocks.flatMap iT).length:=by unfold fX mX;rw[aO]
  rw[aO];omega)
 have cz:f.params.length<=8192:=by
  have h2:(fX f).length=(parT f.params).length+(f.blocks.flatMap iT).length:=by unfold fX mX;rw[aO]
  have h3:(parT f.params).length=f.params.length:=by unfold parT;simp
  omega
 have dx:Hid (fX f=parT f.params++f.blocks.flatMap iT):=h! rfl;obtain⟨np,bk⟩:∃np,np=f.params.length:=⟨_,rfl⟩;obtain⟨nb,cw⟩:∃nb,nb=f.blocks.length:=⟨_,rfl⟩;rw[<-bk]at dp dd db cz⊢;rw[<-cw]at ee da ei⊢;have cn:=h! bk;have dh:=h! cw;have dq:=h! dd;have ed:=h! db;have en:=h! da;have dr:=h! dj;clear hp ha hc hB hv hsm dd db da dj bk cw;generalize f.arrays=ar at*;generalize f.cells=ce at*;go_enter Tryz.func52,Tryz.ntmps52;go_upto_region 1 with(fail);have az:=(Below.refl w.heap.size w).alloc (aC _) (.cells #[.slice ap np cp,.int .i64 ar,.int .i64 ce,.slice ab nb cb] 25);have HW:=h! az;clear az;have B1:=h! (Box.new w #[.slice ap np cp,.int .i64 ar,.int .i64 ce,.slice ab nb cb] 25);generalize w.alloc (.cells #[.slice ap np cp,.int .i64 ar,.int .i64 ce,.slice ab nb cb] 25)=wv at*;obtain⟨ad,ag,ah⟩:=B1.out;go_wp2_with fail;have HO:Hid (Own (wv.alloc (.cells #[] 104)) w.heap.size [w.heap.size] 104 2 (.slice (some ⟨wv.heap.size,0,none⟩) 0 0) 0 []):=h! (oN HW.size (by intro b hb;simp at hb;omega) 2);have co:=(Below.refl wv.heap.size wv).alloc (aC _) (.cells #[] 104);clear ad ag ah;replace B1:=h! (B1.later co);replace HW:=w! HW co;clear co;obtain⟨ad,ag,ah⟩:=B1.out;generalize wv.alloc _=wa at*;go_loopw [3,4] (fun u i wr=>∃j:Nat,j<=np/\i=.int .i64 j/\Own wr w.heap.size [w.heap.size] 104 2 u j (mT (parT (f.params.take j)))/\Below w.heap.size w wr/\Box wr w.heap.size #[.slice ap np cp,.int .i64 ar,.int .i64 ce,.slice ab nb cb]) (fun _ i _=>np - (intOf i).toNat)
 case atStart=>exact⟨0,aL _,rfl,HO.out,HW.out,B1.out⟩
 obtain⟨j,hj,rfl,hO,hW,ak⟩:=hrel;clear ad ag ah;obtain⟨oa,oc,rfl⟩:=hO.form;replace HO:=h! hO;replace HW:=h! hW;replace B1:=h! ak;clear hO hW ak;obtain⟨ad,ag,ah⟩:=B1.out;by_cases hlt:j<np
 ·obtain⟨rfl,bc⟩:=dq.out (by omega);have hx0:=(HW.cell bc).trans (ed j hlt);have ax:=gF f.params j (by have:=cn.out;omega);have ea:=h! (wD f.params j _ ax);clear ax;generalize f.params.getD j 0=t at*;go_wp2_with (at_builtin;refine iL rfl _ _ 101 104 rfl aIZ rfl rfl (HO.alloc _) (Row.of_box (n:=1) (size:=2) (Box.new _ _ _) rfl (by omega)) (by simp[Value.oneCell']) (by unfold maxLen;omega) (by omega) (by simp;have:=HW.size;omega) (by intro b hb;simp at hb⊢;omega) ?_;intro v2 w2 ao ae aq);clear ad ag ah;replace B1:=h! (ae _ _ (by simp) (B1.alloc _));replace HO:=h! ao;replace HW:=h! ((HW.alloc (by have:=HW.size;omega) _).trans aq);clear ao ae aq;obtain⟨ad,ag,ah⟩:=B1.out;go_roundw
  case rel=>exact⟨j+1,hlt,by go_num,by rw[ea.out,oS];exact HO,HW.out,B1.out⟩
  simp[intOf];omega
 obtain rfl:j=np:=by omega
 rw[aI (by have:=cn.out;omega)]at HO;obtain⟨np,bk⟩:∃np,np=j:=⟨_,rfl⟩;obtain rfl:=bk;have dm:Hid ((parT f.params).length=np):=h! (by unfold parT;simp[cn.out]);go_wp2_with fail;go_loopw [3,5] (fun u i wr=>∃j:Nat,j<=nb/\i=.int .i64 j/\Own wr w.heap.size [w.heap.size] 104 2 u (parT f.params++(f.blocks.take j).flatMap iT).length (mT (parT f.params++(f.blocks.take j).flatMap iT))/\Below w.heap.size w wr/\Box wr w.heap.size #[.slice ap np cp,.int .i64 ar,.int .i64 ce,.slice ab nb cb]) (fun _ i _=>nb - (intOf i).toNat)
 case atStart=>exact⟨0,aL _,rfl,by simp only[aU,List.flatMap_nil,cV];rw[dm.out];exact HO,HW.out,B1.out⟩
 obtain⟨j,hj,rfl,hO,hW,ak⟩:=hrel;clear ad ag ah;obtain⟨L,hL⟩:∃L,L=parT f.params++(f.blocks.take j).flatMap iT:=⟨_,rfl⟩;rw[<-hL]at hO;obtain⟨oa,oc,rfl⟩:=hO.form;replace HO:=h! hO;replace HW:=h! hW;replace B1:=h! ak;have HL:=h! hL;clear hO hW ak hL;generalize wr=wb at*;obtain⟨ad,ag,ah⟩:=B1.out;by_cases hltb:j<nb
 ·obtain⟨rfl,eg⟩:=en.out (by omega);obtain⟨x,ax⟩:∃x,f.blocks[j]? =some x:=⟨_,aA (by have:=dh.out;omega)⟩;obtain⟨bp,bq,bO,bh,bl,bt,hC⟩:=dr.out j x ax;have hsm:=dn.out j x ax;have dw:=h! (iO iT f.blocks j x ax);have bi:=hC.phis;have bv:=hC.code;obtain⟨k0,k1,k2,k3,k4,k5,q1,q2,q3,q4,q5,q6⟩:=hC.below HW.out eg;clear q1 q2 q3 q4 q5 q6 hC ax;rw[<-HL.out]at hsm;obtain⟨pl,ct⟩:∃pl,pl=x.phis.length:=⟨_,rfl⟩;obtain⟨cl,cB⟩:∃cl,cl=x.code.length:=⟨_,rfl⟩;obtain⟨ac,capc,bcd,ocd,bs,dt,hcm,cc,cj,dl⟩:=gU bv;obtain⟨apx,capp,bph,oph,bm,ci,hppm,bf,aw,bx⟩:=gL bi;rw[<-ct]at bm ci bf aw k0;rw[<-cB]at bs dt cc cj k1
  cases bm
  cases bs;have dg:=h! ct;have dk:=h! cB;have cr:=h! aw;have cx:=h! bx;have df:=h! cj;have dc:=h! dl;clear ct cB aw bx cj dl bi bv;have an:Hid (∀k,(L++(x.phis.take k).flatMap defP).length<=8192/\∀k2,(L++x.phis.flatMap defP++(x.code.take k2).flatMap defI).length<=8192):=h! (fun k=>⟨by
   have:=kJ defP x.phis k;rw[aO];omega,fun k2=>by
   have:=kJ defI x.code k2;rw[aO,aO];omega⟩)
  clear hsm;replace HO:=h! (HO.more (b:=wb.heap.size) (aC _));go_upto_region 10 with(fail);have bg:wb.heap.size≠w.heap.size:=fun e=>by have:=ad;omega
  have nB1B6:w.heap.size≠wb.heap.size:=fun e=>bg e.symm;clear ad ag ah;have az:=(Below.refl wb.heap.size wb).alloc (aC _) (.cells #[.slice bp pl bh,.slice bq cl bl,.int .i64 x.term.op,.int .i64 x.term.val,.slice bO x.term.to.length bt,.int .i64 x.term.n] 63);replace B1:=h! (B1.later az);replace HO:=h! (HO.later az);replace HW:=w! HW az;clear az;have B6:=h! (Box.new wb #[.slice bp pl bh,.slice bq cl bl,.int .i64 x.term.op,.int .i64 x.term.val,.slice bO x.term.to.length bt,.int .i64 x.term.n] 63);generalize wb.alloc (.cells #[.slice bp pl bh,.slice bq cl bl,.int .i64 x.term.op,.int .i64 x.term.val,.slice bO x.term.to.length bt,.int .i64 x.term.n] 63)=w6 at*;obtain⟨ad,ag,ah⟩:=B1.out;obtain⟨aj,am,al⟩:=B6.out;clear k0 k1 k2 k3 k4 k5;go_wp2_with fail;go_loopw [3,7] (fun u i wr=>∃k:Nat,k<=pl/\i=.int .i64 k/\Own wr w.heap.size [wb.heap.size,w.heap.size] 104 2 u (L++(x.phis.take k).flatMap defP).length (mT (L++(x.phis.take k).flatMap defP))/\Below w.heap.size w wr/\Box wr w.heap.size #[.slice ap np cp,.int .i64 ar,.int .i64 ce,.slice (some ⟨bb,bo,none⟩) nb cb]/\Box wr wb.heap.size #[.slice bp pl bh,.slice bq cl bl,.int .i64 x.term.op,.int .i64 x.term.val,.slice bO x.term.to.length bt,.int .i64 x.term.n]) (fun _ i _=>pl - (intOf i).toNat)
  case atStart=>exact⟨0,aL _,rfl,by simp only[aU,List.flatMap_nil,cV];exact HO,HW.out,B1.out,B6.out⟩
  obtain⟨k,hk,rfl,hO,hW,ak,bj⟩:=hrel;clear ad ag ah aj am al;have hsm:=(an (k+1)).1;have ai:=(an k).1;obtain⟨L1,de⟩:∃L1,L1=L++(x.phis.take k).flatMap defP:=⟨_,rfl⟩;rw[<-de]at hO ai;obtain⟨oa1,oc1,rfl⟩:=hO.form;replace HO:=h! hO;replace HW:=h! hW;replace B1:=h! ak;replace B6:=h! bj;have cg:=h! de;clear hO hW ak bj de;generalize wr=w7 at*;obtain⟨ad,ag,ah⟩:=B1.out;obtain⟨aj,am,al⟩:=B6.out;by_cases hlt:k<pl
  ·obtain⟨rfl,bc⟩:=cr.out (by omega);obtain⟨p,cL⟩:∃p,x.phis[k]? =some p:=⟨_,aA (by have:=dg.out;omega)⟩;obtain⟨af,av,cf,cv,hP⟩:=cx.out k p cL;have cM:=h! (iO defP x.phis k p cL);have HP:=h! hP;have HQ:Hid (L++(x.phis.take (k+1)).flatMap defP=L1++[(p.id,p.typ)]):=h! (by rw[cM.out,<-List.append_assoc,<-cg.out];rfl);rw[HQ.out,aO]at hsm;obtain⟨nL,ay⟩:∃nL,nL=L1.length:=⟨_,rfl⟩;rw[<-ay]at hsm ai HO⊢;have ch:=h! ay;simp only[bI,dA,bM]at hsm;clear hP cL ay;go_upto_region 13 with(fail);refine wp_region_grow 15 (fun kz=>match kz with|14=>.made w7.heap.size (fun b=>.slice (some ⟨b,0,none⟩) 1 1) #[.int .i64 p.id,.int .i64 p.typ]|_=>.plain) (by kernel_rfl) (by kernel_rfl) ?_ (fun ν=> ?_)
   ·(intro k;(try dsimp only);split<;>first|exact True.intro|(intro u w1 w2 hu hb;exact hu.below hb))
   simp only[aP,aU,aR,aV];iterate 14 (refine Grow.val (v:= ?_) rfl rfl (fun wg hbg hdg=> ?_) ?_;rotate_left;(focus((obtain⟨ek,ef,em⟩:=B1.later hbg);(obtain⟨dz,eb,dv⟩:=B6.later hbg);(obtain⟨m0,m1,m2,m3,r1,r2,r3,r4⟩:=HP.below (w! HW hbg) bc;clear r1 r2 r3 r4);clear hbg hdg;first|(go_simp;done)|(go_simp;with_reducible rfl)));simp only[Act.put,aB,aE,aF])
   refine Grow.made (T:= ?_) rfl rfl (fun wg hbg hdg=> ?_) ?_;rotate_left;focus((obtain⟨ek,ef,em⟩:=B1.later hbg);(obtain⟨dz,eb,dv⟩:=B6.later hbg);(obtain⟨m0,m1,m2,m3,r1,r2,r3,r4⟩:=HP.below (w! HW hbg) bc;clear r1 r2 r3 r4);clear hbg hdg;first|(go_simp;done)|(go_simp;with_reducible rfl))
   simp only[Act.put,Known.val,aB,aE,aF];intro wg hb hf eh;obtain⟨cd,bn,bw,bd⟩:=hf 14 (by omega);have be:cd≠w.heap.size:=fun e=>by have:=ad;omega
   have nB1BN:w.heap.size≠cd:=fun e=>be e.symm;have br:cd≠wb.heap.size:=fun e=>by have:=aj;omega
   have nB6BN:wb.heap.size≠cd:=fun e=>br e.symm;simp only[bn];clear bn;clear eh;have gBN:=aT HW.size bw;clear bw;clear ad ag ah aj am al;replace B1:=h! (B1.later hb);replace B6:=h! (B6.later hb);replace HO:=h! (HO.later hb);replace HW:=w! HW hb;clear hb;have BN:=h! bd;clear bd;obtain⟨ad,ag,ah⟩:=B1.out;obtain⟨aj,am,al⟩:=B6.out;obtain⟨ck,dy,ej⟩:=BN.out;clear hf;clear ad ag ah aj am al ck dy ej;have ck:=BN.lt;have ad:=B1.lt;have aj:=B6.lt;refine iL rfl _ _ 101 104 rfl aIZ rfl rfl HO.out (Row.of_box (n:=1) (size:=2) BN.out rfl (by omega)) (by simp[Value.oneCell']) (by unfold maxLen;omega) (by omega) (by have:=HW.size;omega) (by intro b hb;simp at hb⊢;omega) ?_;intro v2 w2 ao ae aq;clear ck;clear ad;clear aj;replace B1:=h! (ae _ _ (by simp) B1.out);replace B6:=h! (ae _ _ (by simp) B6.out);replace HO:=h! ao;replace HW:=h! (HW.trans aq);clear ao ae aq BN;obtain⟨ad,ag,ah⟩:=B1.out;obtain⟨aj,am,al⟩:=B6.out;go_wp2;go_roundw
   case rel=>exact⟨k+1,hlt,by go_num,by rw[HQ.out,oS,aO,<-ch.out];exact HO,HW.out,B1.out,B6.out⟩
   simp[intOf];omega
  obtain rfl:k=pl:=by omega
  rw[aI (by have:=dg.out;omega)]at cg;clear hsm ai;go_wp2_with fail;go_loopw [3,8] (fun u i wr=>∃q:Nat,q<=cl/\i=.int .i64 q/\Own wr w.heap.size [wb.heap.size,w.heap.size] 104 2 u (L1++(x.code.take q).flatMap defI).length (mT (L1++(x.code.take q).flatMap defI))/\Below w.heap.size w wr/\Box wr w.heap.size #[.slice ap np cp,.int .i64 ar,.int .i64 ce,.slice (some ⟨bb,bo,none⟩) nb cb]/\Box wr wb.heap.size #[.slice bp k bh,.slice bq cl bl,.int .i64 x.term.op,.int .i64 x.term.val,.slice bO x.term.to.length bt,.int .i64 x.term.n]) (fun _ i _=>cl - (intOf i).toNat)
  case atStart=>exact⟨0,aL _,rfl,by simp only[aU,List.flatMap_nil,cV];exact HO,HW.out,B1.out,B6.out⟩
  obtain⟨q,hq,rfl,hO,hW,ak,bj⟩:=hrel;clear ad ag ah aj am al;have hsm:=(an 0).2 (q+1);have ai:=(an 0).2 q;rw[<-cg.out]at hsm ai;obtain⟨L2,cs⟩:∃L2,L2=L1++(x.code.take q).flatMap defI:=⟨_,rfl⟩;rw[<-cs]at hO ai;obtain⟨oa2,oc2,rfl⟩:=hO.form;replace HO:=h! hO;replace HW:=h! hW;replace B1:=h! ak;replace B6:=h! bj;have cq:=h! cs;clear hO hW ak bj cs;generalize wr=w9 at*;obtain⟨ad,ag,ah⟩:=B1.out;obtain⟨aj,am,al⟩:=B6.out;by_cases hltq:q<cl
  ·obtain⟨rfl,bc⟩:=df.out (by omega);obtain⟨y,cF⟩:∃y,x.code[q]? =some y:=⟨_,aA (by have:=dk.out;omega)⟩;obtain⟨aa,ca,hP⟩:=dc.out q y cF;have cm:=h! (iO defI x.code q y cF);obtain⟨m0,m1,m2,m3,r1,r2,r3,r4⟩:=hP.below HW.out bc;have HQ:Hid (L1++(x.code.take (q+1)).flatMap defI=L2++defI y):=h! (by rw[cm.out,<-List.append_assoc,<-cq.out]);rw[HQ.out,aO]at hsm;obtain⟨nL,ay⟩:∃nL,nL=L2.length:=⟨_,rfl⟩;rw[<-ay]at hsm ai HO⊢;have ch:=h! ay;have cy:=sM y.op;clear r1 r2 r3 r4 hP cF ay;go_wp2_with fail;refine(uQ y.op).mono ?_;rintro e w10 ⟨rfl,rfl⟩;have cG:Hid (defI y=if (shp0 y.op).result=0 then [] else [(y.id,(shp0 y.op).result)]):=h! rfl;obtain⟨res,ba⟩:∃res,res=(shp0 y.op).result:=⟨_,rfl⟩;rw[<-ba]at cG cy;simp only[<-ba];clear ba;have hr0:=cy.2.2.1;clear cy
   cases hgt:decide (0<res)
   ·have di:=h! hgt;go_wp2;go_roundw
    case rel=>exact⟨q+1,hltq,by go_num,by rw[HQ.out,cG.out,if_pos (by have:=di.out;simp at this;omega),cV,<-ch.out];exact HO,HW.out,B1.out,B6.out⟩
    simp[intOf];omega
   have di:=h! hgt;have bz:Hid (defI y=[(y.id,res)]):=h! (by rw[cG.out,if_neg (by simp at hgt;omega)]);rw[bz.out]at hsm;simp only[bI,dA,bM]at hsm;go_wp2_with (at_builtin;refine iL rfl _ _ 101 104 rfl aIZ rfl rfl (HO.alloc _) (Row.of_box (n:=1) (size:=2) (Box.new _ _ _) rfl (by omega)) (by simp[Value.oneCell']) (by unfold maxLen;omega) (by omega) (by simp;have:=HW.size;omega) (by intro b hb;simp at hb⊢;omega) ?_;intro v2 w2 ao ae aq);clear ad ag ah aj am al;replace B1:=h! (ae _ _ (by simp) (B1.alloc _));replace B6:=h! (ae _ _ (by simp) (B6.alloc _));replace HO:=h! ao;replace HW:=h! ((HW.alloc (by have:=HW.size;omega) _).trans aq);clear ao ae aq;obtain⟨ad,ag,ah⟩:=B1.out;obtain⟨aj,am,al⟩:=B6.out;go_roundw
   case rel=>exact⟨q+1,hltq,by go_num,by rw[HQ.out,bz.out,oS,aO,<-ch.out];exact HO,HW.out,B1.out,B6.out⟩
   simp[intOf];omega
  obtain rfl:q=cl:=by omega
  rw[aI (by have:=dk.out;omega)]at cq;have HQ:Hid (parT f.params++(f.blocks.take (j+1)).flatMap iT=L2):=h! (by rw[dw.out,<-List.append_assoc,<-HL.out,cq.out,cg.out,sT,cD]);clear hsm ai;go_wp2;go_roundw
  case rel=>exact⟨j+1,hltb,by go_num,by rw[HQ.out];exact HO.less (by simp),HW.out,B1.out⟩
  simp[intOf];omega
 obtain rfl:j=nb:=by omega
 rw[aI (by have:=dh.out;omega)]at HL;rw[<-dx.out]at HL;go_wp2;go_ret;exact⟨_,rfl,by rw[<-HL.out];exact HO.row,HW.out⟩
structure UseD where
 id:Int
 typ:Int
 blk:Int
 pos:Int
 src:Int
 deriving DecidableEq,Inhabited
def kU(T:List UseD):List Value:=T.flatMap fun u=>[.int .i64 u.id,.int .i64 u.typ,.int .i64 u.blk,.int .i64 u.pos,.int .i64 u.src]
theorem nB(T:List UseD)(a b c d e:Int):kU (T++[⟨a,b,c,d,e⟩])=kU T++[.int .i64 a,.int .i64 b,.int .i64 c,.int .i64 d,.int .i64 e]:=by unfold kU;simp
def uxP(i:Nat)(p:PhiD):List UseD:=(p.vals.zip p.src).map fun vs=>⟨vs.1,p.typ,i,-1,vs.2⟩
def uxI(i:Nat)(xk:InstrD×Nat):List UseD:=(xk.1.args.zip (shp0 xk.1.op).args).map fun at_=>⟨at_.1,at_.2,i,xk.2,0⟩
def uxT(i:Nat)(b:BlockD):List UseD:=if b.term.op=2 then [⟨b.term.val,2,i,b.code.length,0⟩] else if b.term.op=3 then [⟨b.term.val,0,i,b.code.length,0⟩] else []
def uxB(bi:BlockD×Nat):List UseD:=bi.1.phis.flatMap (uxP bi.2)++bi.1.code.zipIdx.flatMap (uxI bi.2)++uxT bi.2 bi.1
def uxF(f:FuncD):List UseD:=f.blocks.zipIdx.flatMap uxB
structure Even(f:FuncD):Prop where
 phi:∀b∈f.blocks,∀p∈b.phis,p.src.length=p.vals.length/\p.vals.length<=512
 args:∀b∈f.blocks,∀x∈b.code,x.args.length=(shp0 x.op).args.length
 size:mE f<=4096
 len:f.blocks.length<=512
theorem aM0(n:Nat):∀l:List Int,l.Nodup->(∀x∈l,0<=x/\x<(n:Int))->l.length<=n:=by
 induction n with
 | zero=>
  intro l _ h
  cases l with
  | nil=>simp
  | cons x l=>have:=h x (by simp);omega
 | succ n ih=>
  intro l aa h
  by_cases hm:(n:Int)∈l
  ·have h1:=ih (l.erase (n:Int)) (aa.erase _) (fun x hx=>by
    have h2:=(aa.mem_erase_iff).1 hx;have h3:=h x h2.2;have h4:=h2.1;omega)
   rw[List.length_erase_of_mem hm]at h1
   omega
  have h1:=ih l aa (fun x hx=>by have h3:=h x hx;have h4:x≠n:=fun e=>hm (e ▸ hx);omega)
  omega
theorem kY{f:FuncD}(h:gX f=true):Even f:=by
 have h0:=h;unfold gX kA at h0;simp only[aK,decide_eq_true_eq,aY]at h0;have aa:∀b∈f.blocks,∃j,gV f.blocks.length f.arrays f.cells (b,j)=true:=fun b hb=>by obtain⟨j,hj,rfl⟩:=eJ hb;exact⟨j,h0.2 (f.blocks[j],j) (by rw[bS];exact⟨j,by simp[hj]⟩)⟩
 refine⟨fun b hb p hp=> ?_,fun b hb x hx=> ?_,h0.1.1.2,h0.1.1.1.2⟩
 ·obtain⟨j,h1⟩:=aa b hb;unfold gV at h1;simp only[aK,aY]at h1;have h2:=h1.1.1.2 p hp;unfold jR at h2;simp only[aK,beq_iff_eq,aY,decide_eq_true_eq]at h2;refine⟨h2.1.1.2, ?_⟩;have h3:=aM0 f.blocks.length p.src h2.2 (fun x hx=>by have:=h2.1.2 x hx;unfold numB at this;simpa using this);have h4:=h0.1.1.1.2;have h5:=h2.1.1.2;omega
 obtain⟨j,h1⟩:=aa b hb;unfold gV at h1;simp only[aK,aY]at h1;have h2:=h1.1.2 x hx;unfold gR at h2;simp only[aK,beq_iff_eq]at h2;exact h2.1.1.2
theorem aCT{α β:Type}(g:α->List β)(c:Nat)(l:List α)(h:∀x∈l,(g x).length<=c):(l.flatMap g).length<=c*l.length:=by
 induction l with
 | nil=>simp
 | cons x l ih=>
  have h1:=h x (by simp)
  have h2:=ih fun y hy=>h y (by simp[hy])
  rw[cK,aO,bI,Nat.mul_add]
  omega
theorem aK5{f:FuncD}(he:Even f){b:BlockD}{j:Nat}(hb:b∈f.blocks):((uxB (b,j)).length:Int)<=512*iB b:=by
 have h1:=aCT (uxP j) 512 b.phis (fun p hp=>by unfold uxP;rw[aZ,eS];have:=he.phi b hb p hp;omega);have h2:=aCT (uxI j) 3 b.code.zipIdx (fun xk hx=>by unfold uxI;rw[aZ,eS];have:=(sM xk.1.op).1;omega);have h3:(uxT j b).length<=1:=by unfold uxT;split;simp;split<;>simp
 rw[eQ]at h2;unfold uxB iB;rw[aO,aO];simp only;omega
theorem aCU{f:FuncD}(he:Even f):(uxF f).length<=2097152:=by
 have aa:∀(l:List (BlockD×Nat)),(∀x∈l,x.1∈f.blocks)->((l.flatMap uxB).length:Int)<=512*((l.map (fun x=>iB x.1)).sum):=by
  intro l;induction l with
  | nil=>intro _;simp
  | cons x l ih=>
   intro h
   have h1:=aK5 he (j:=x.2) (h x (by simp))
   have h2:=ih fun y hy=>h y (by simp[hy])
   rw[cK,aO,cI,fJ]
   have e:((uxB x).length:Int)=((uxB (x.1,x.2)).length:Int):=rfl
   omega
 have h1:=aa f.blocks.zipIdx (fun x hx=>by obtain⟨i,hi,rfl⟩:=eJ hx;simp);have h2:f.blocks.zipIdx.map (fun x=>iB x.1)=f.blocks.map iB:=by
  have:f.blocks.zipIdx.map (fun x=>iB x.1)=(f.blocks.zipIdx.map (·.1)).map iB:=by rw[bN];rfl
  rw[this,List.zipIdx_map_fst]
 rw[h2]at h1;have h3:=he.size;unfold mE at h3;unfold uxF;omega
def UseD.pair(u:UseD):Int×Int:=(u.id,u.typ)
theorem yN{f:FuncD}(he:Even f):(uxF f).map UseD.pair=lJ f:=by
 have hB:∀b∈f.blocks,∀j,(uxB (b,j)).map UseD.pair=lI b:=by
  intro b hb j;unfold uxB lI;rw[bG,bG];congr 1
  ·congr 1
   ·simp only;rw[eK];have:∀l:List PhiD,(∀p∈l,p.src.length=p.vals.length)->l.flatMap (fun p=>(uxP j p).map UseD.pair)=l.flatMap pQ:=by
     intro l;induction l with
     | nil=>intro _;rfl
     | cons p l ih=>
      intro h
      rw[cK,cK,ih fun q hq=>h q (by simp[hq])]
      congr 1
      unfold uxP pQ
      rw[bN]
      have h1:=h p (by simp)
      have h2:(p.vals.zip p.src).map Prod.fst=p.vals:=List.map_fst_zip (by omega)
      have h3:(p.vals.zip p.src).map (UseD.pair ∘ fun vs=>⟨vs.1,p.typ,j,-1,vs.2⟩)=((p.vals.zip p.src).map Prod.fst).map fun v=>(v,p.typ):=by rw[bN];rfl
      rw[h3,h2]
    exact this b.phis fun p hp=>(he.phi b hb p hp).1
   simp only;rw[eK];have:∀l:List (InstrD×Nat),l.flatMap (fun x=>(uxI j x).map UseD.pair)=(l.map (·.1)).flatMap sF:=by
    intro l;induction l with
    | nil=>rfl
    | cons x l ih=>
     rw[cK,cI,cK,ih]
     congr 1
     unfold uxI sF
     rw[bN]
     have:(UseD.pair ∘ fun at_:Int×Int=>(⟨at_.1,at_.2,j,x.2,0⟩:UseD))=id:=rfl
     rw[this,List.map_id]
   rw[this,List.zipIdx_map_fst]
  unfold uxT pA;simp only;split
  ·rfl
  split<;>rfl
 unfold uxF lJ;rw[eK];have:∀l:List (BlockD×Nat),(∀x∈l,x.1∈f.blocks)->l.flatMap (fun x=>(uxB x).map UseD.pair)=(l.map (·.1)).flatMap lI:=by
  intro l;induction l with
  | nil=>intro _;rfl
  | cons x l ih=>
   intro h
   rw[cK,cI,cK,ih fun y hy=>h y (by simp[hy])]
   congr 1
   exact hB x.1 (h x (by simp)) x.2
 rw[this _ (fun x hx=>by obtain⟨i,hi,rfl⟩:=eJ hx;simp),List.zipIdx_map_fst]
end Go.Proofs.YtagabiidbbhhmaaGreat
