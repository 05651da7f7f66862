/- Part 57. -/
import Derived.Test.YtagabiidbbhhmaaGreatET56
namespace Go.Proofs.YtagabiidbbhhmaaGreat
set_option linter.all false
set_option maxRecDepth 100000
open Go.RowKit
def aMF(base bs fuel:Nat)(w:World)(bm b7:Nat)(D:Foot)(A7:Array Value)(W:World)(s:RunS):Prop:=
 ∃D',Mach base bs fuel W bm D' s/\Off D w W/\(∀k,D' k->D k\/w.heap.size<=k)/\¬D' b7/\Box W b7 A7
theorem aB3{b:BlockD}{src:Int}{s:RunS}{k:Nat}{p:PhiD}(h:b.phis[k]? =some p):((b.phis.map fun p=>(p,phiV src s p)).take (k+1))=((b.phis.map fun p=>(p,phiV src s p)).take k)++[(p,phiV src s p)]:=by rw[cX,aM,h];rfl
theorem Mach.facts{base bs fuel:Nat}{W:World}{bm:Nat}{D:Foot}{s:RunS}(h:Mach base bs fuel W bm D s):(∀i,In64 (s.vals i))/\(∀a∈s.arrays,∀x∈a,In64 x)/\∀x∈s.cells,In64 x:=by obtain⟨_,_,_,_,_,_,_,hP,_⟩:=h;exact⟨hP.v64,hP.arr64,hP.cel.2⟩
theorem aHZ{f:FuncD}(hc:fO f=0){b:BlockD}(hb:b∈f.blocks):jB f.blocks.length b.term=true:=by obtain⟨i,hi⟩:=bP hb;exact(iN.1 ((jQ.1 hc).2.2.1 i b hi)).2.2.2
theorem aFC(F:Nat->Foot)(i:Nat):newF F i (F i)=F:=by
 funext j;unfold newF;split
 ·rename_i e;rw[e]
 rfl
theorem sH{base bs fuel:Nat}{W W':World}{bm:Nat}{s:RunS}{o:OverD}{ov av vv cv:Value}{mv:Nat}{m:List (Int×Value)}{F:Nat->Foot}(h:MachP base bs fuel W bm s o ov av vv cv mv m F)(ht:Turn [mv] W W'):Off (F 4) W W':=
 ⟨ht.os,ht.tape,ht.output,ht.size,fun k hk hn=>ht.block k hk fun hm=>hn ((h.m4 k).2 (by simpa using hm))⟩
theorem MachP.put_val{base bs fuel:Nat}{W W':World}{bm:Nat}{s:RunS}{ov av vv cv:Value}{mv:Nat}{m:List (Int×Value)}{F:Nat->Foot}(h:MachP base bs fuel W bm s ⟨0,0,0⟩ ov av vv cv mv m F)(ho:Off (F 4) W W')(hB:base<=W.heap.size){id z:Int}(hz:In64 z)
  (hm:IMap W' mv (mput m id (.int .i64 z))):MachP base bs fuel W' bm (setV s id z) ⟨0,0,0⟩ ov av vv cv mv (mput m id (.int .i64 z)) F:=by
 have h9:=h.turn 4 (by omega) (by omega) (s':=setV s id z) (G:=F 4) (m':=mput m id (.int .i64 z)) ho (fun k hk=>.inl hk) hB (fun _=>h.m4) ⟨rfl,rfl⟩ (by rw[if_neg (by omega)];rfl) (by rw[if_neg (by omega)];rfl) (by rw[if_neg (by omega)];rfl) (by rw[if_neg (by omega)];rfl) (by
  rw[if_pos rfl];refine⟨hm,fun i=> ?_,fun i=> ?_⟩
  ·rw[rI];show _=Value.int .i64 (if i=id then z else s.vals i);by_cases e:i=id
   ·rw[if_pos e,if_pos e];rfl
   rw[if_neg e,if_neg e];exact h.val i
  show In64 (if i=id then z else s.vals i);split
  ·exact hz
  exact h.v64 i)
 rwa[aFC]at h9
set_option maxHeartbeats 25600000 in
theorem aMG{base bs fuel bm at_:Nat}{w:World}{D:Foot}{s:RunS}{f:FuncD}{x:BlockD}{src:Int}(hM:Mach base bs fuel w bm D s)(hB:base<=w.heap.size)(hE:Env f base w bs)(hc:fO f=0)(hfu:fuel<=200000)(hG:GoodS f fuel s)(hV:∀n∈s.visits,n<=1000000)
  (hx:f.blocks[at_]? =some x) (hsrc:∀p∈x.phis,src∈p.src):
  Calls Tryz.prog 95 #[.pointer (some ⟨bm,0,none⟩),.int .i64 src,.int .i64 at_] w (ResR base bs fuel w bm D intV (lD f fuel src at_ s)):=by
 obtain⟨w0,hX,jb,bt,bg,bv,e1,e2,e3,ka⟩:=hE;obtain⟨a3,c3,bb,bo,rfl,kj,hbm,hT,ja,js⟩:=fW ka;have hR:at_<f.blocks.length:=(aD.1 hx).1;obtain⟨rfl,ks⟩:=ja (by omega);obtain⟨bx,bz,al,bq,bp,an,hC⟩:=js at_ x hx;obtain⟨nb,fa⟩:∃nb,nb=f.blocks.length:=⟨_,rfl⟩;rw[<-fa]at e3 kj hR hT;have HC:=h! hC;have HNB:=h! fa;have HX:=h! hx;have et:=h! (aG hx);have gw:=h! hsrc;have di:=h! hc;have HB:=h! hB;have HG:=h! hG;have ap:Hid (lD f fuel src at_ s=(jV fuel x.code (pE x src (kV at_ s))).bind fun _ s1=>(mB fuel s1).bind fun _ s2=>endR x.term s2):=h! (by unfold lD;rw[getD_some hx]);have kq:=h! (And.intro e1 (And.intro e2 e3));have ir:Hid (Below w0.heap.size w0 w):=h! (by rw[hX];exact jb);have h512:nb<=512:=by rw[fa];exact(jH (fT hc).1).2
 obtain⟨n0,fs⟩:∃n0,s.visits[at_]? =some n0:=⟨_,aA (by have:=hG.vis;omega)⟩;have hn1:=hV n0 (aG fs);obtain⟨ov,av,vv,cv,mv,m,F,hP,hD⟩:=hM;have HD:=h! hD;have HP0:=h! hP;have jx:(natI s.visits)[at_]? =some ((n0:Nat):Int):=by unfold natI;rw[aM,fs];rfl
 obtain⟨gv,jp,kb,gB,hgvl,jv,kg,em⟩:=hP.vis.addr jx;have io:(natI s.visits).length=nb:=by unfold natI;rw[aZ,hG.vis,fa]
 rw[io]at kb;subst kb;have ct:=em (((n0+1:Nat):Int)) ⟨by omega,by omega⟩;have hw:IntKind.i64.wrap (((n0:Nat):Int)+1)=((n0+1:Nat):Int):=by rw[nK ⟨by omega,by omega⟩];omega
 have hgb:gv≠bm:=fun e=>hP.apart 3 0 (by omega) gv gB ((hP.b0 gv).2 e);have hr:Hid (MachP base bs fuel (w.setCell ⟨gv,at_,none⟩ (.int .i64 ((n0:Int)+1))) bm (kV at_ s) ⟨0,0,0⟩ ov av (.slice (some ⟨gv,0,none⟩) nb jp) cv mv m (newF F 3 (F 3))):=h! (by have hoff:=Off.set w ⟨gv,at_,none⟩ (.int .i64 ((n0:Int)+1));refine hP.turn 3 (by omega) (by omega) (s':=kV at_ s) (G:=F 3) (hoff.mono fun k _ hk=>by cases hk;exact gB) (fun k hk=>.inl hk) hB (fun e=>by omega) ⟨rfl,rfl⟩ (by rw[if_neg (by omega)];rfl) (by rw[if_neg (by omega)];rfl) ?_ (by rw[if_neg (by omega)];rfl) (by rw[if_neg (by omega)];exact⟨rfl,rfl⟩);rw[if_pos rfl];show fP _ _ _ (natI (s.visits.modify at_ (· +1)));rw[aBI fs];exact ct);have fk:Hid (Off D w (w.setCell ⟨gv,at_,none⟩ (.int .i64 ((n0:Int)+1)))):=h! ((Off.set w ⟨gv,at_,none⟩ _).mono fun k _ hk=>by cases hk;exact(hD gv).2 ⟨3,gB⟩);have il:Hid (∀k,D k->base<=k):=h! (fun k hk=>by obtain⟨i,hi⟩:=(hD k).1 hk;exact hP.base i k hi);have it:Hid (∀k,D k->k<w.heap.size):=h! (fun k hk=>by obtain⟨i,hi⟩:=(hD k).1 hk;exact hP.lt hi);have ek:Hid (∀i k,newF F 3 (F 3) i k->D k):=h! (fun i k hk=>(hD k).2 (by
  unfold newF at hk;split at hk
  ·exact⟨3,hk⟩
  exact⟨i,hk⟩))
 have cn:=h! hX;obtain⟨lm,cm,fm⟩:=hP.box;have gi:w.cell? ⟨gv,at_,none⟩=some (.int .i64 (n0:Int)):=jv;clear ka js hC hx fa hsrc hc hB hG hV fs jx hP hD em ct io ja jb e1 e2 e3 hX;go_enter Tryz.func95,Tryz.ntmps95;go_upto_region 2 with(fail);clear cm fm jv kg hw gi lm;generalize w.setCell ⟨gv,at_,none⟩ (.int .i64 ((n0:Int)+1))=w1 at*;obtain⟨lm,cm,fm⟩:=hr.box;have ai:Hid (Below w0.heap.size w0 w1):=h! (ir.trans (fk.below (by have:=HB.out;have:=cn.out;omega) (fun k _ hk=>by have:=il.out k hk;have:=cn.out;omega)));obtain⟨q1,q2,q3⟩:=kq.out;have r1:=(ai.cell (World.block_lt_of_cell? w0 _ q1)).trans q1;have r2:=(ai.cell (World.block_lt_of_cell? w0 _ q2)).trans q2;have r3:=(ai.cell (World.block_lt_of_cell? w0 _ q3)).trans q3;clear q1 q2 q3;obtain⟨k0,k1,k2,k3,k4,k5,-,-,-,-,-,-⟩:=HC.below ai.out ks;go_upto_region 3 with(fail);clear r1 r2 r3 k0 k1 k2 k3 k4 k5 cm fm lm;obtain⟨pl,dy⟩:∃pl,pl=x.phis.length:=⟨_,rfl⟩;obtain⟨cl,eg⟩:∃cl,cl=x.code.length:=⟨_,rfl⟩;obtain⟨tl,hA⟩:∃tl,tl=x.term.to.length:=⟨_,rfl⟩;rw[<-dy,<-eg,<-hA];have B7:Hid (Box (w1.alloc (.cells #[.slice bx pl bq,.slice bz cl bp,.int .i64 x.term.op,.int .i64 x.term.val,.slice al tl an,.int .i64 x.term.n] 63)) w1.heap.size #[.slice bx pl bq,.slice bz cl bp,.int .i64 x.term.op,.int .i64 x.term.val,.slice al tl an,.int .i64 x.term.n]):=h! (Box.new _ _ _);have dr:=h! (hr.alloc (.cells #[.slice bx pl bq,.slice bz cl bp,.int .i64 x.term.op,.int .i64 x.term.val,.slice al tl an,.int .i64 x.term.n] 63));have jh:Hid (Off D w (w1.alloc (.cells #[.slice bx pl bq,.slice bz cl bp,.int .i64 x.term.op,.int .i64 x.term.val,.slice al tl an,.int .i64 x.term.n] 63))):=h! (fk.trans (Off.alloc _ _ _));have cw:Hid (Below w0.heap.size w0 (w1.alloc (.cells #[.slice bx pl bq,.slice bz cl bp,.int .i64 x.term.op,.int .i64 x.term.val,.slice al tl an,.int .i64 x.term.n] 63))):=h! (ai.alloc ai.size _);obtain⟨b7,gp⟩:∃b7,b7=w1.heap.size:=⟨_,rfl⟩;have hb7w:w.heap.size<=b7:=by rw[gp];exact fk.size
 rw[<-gp]at B7⊢;generalize w1.alloc (.cells #[.slice bx pl bq,.slice bz cl bp,.int .i64 x.term.op,.int .i64 x.term.val,.slice al tl an,.int .i64 x.term.n] 63)=w2 at*;clear gp hr ai fk;have fl:=h! dy;have jy:=h! eg;have cj:=h! hA;obtain⟨s1,ga⟩:∃s1,s1=kV at_ s:=⟨_,rfl⟩;rw[<-ga]at dr ap;have kh:Hid (GoodS f fuel s1):=h! (by rw[ga];exact HG.visit at_);obtain⟨F1,im⟩:∃F1,F1=newF F 3 (F 3):=⟨_,rfl⟩;rw[<-im]at dr ek;obtain⟨a9,c9,pb,po,iw,-,-,hY,hJ,jz⟩:=gL HC.phis;rw[<-dy]at iw hJ hY
 cases iw;have jq:=h! hJ;have iy:=h! jz;obtain⟨a10,c10,cb,co,jd,-,-,hQ,gf,jk⟩:=gU HC.code;rw[<-eg]at jd gf hQ
 cases jd;have kw:=h! gf;have km:=h! jk;have gy:Hid (cl<=100000/\pl<=100000):=h! (by have h9:=(rZ di.out).1 x et.out;rw[eg,dy];exact⟨h9.2,h9.1⟩);clear dy eg hA ga im hJ jz gf jk;obtain⟨W2,gx⟩:∃W2,W2=w2:=⟨_,rfl⟩;have gg:Hid (qJ W2 w2):=h! (by rw[gx];exact Below.refl _ _);rw[<-gx]at dr jh cw B7;clear gx;obtain⟨l7,c7,f7⟩:=B7.later gg.out;go_wp2_with fail;clear l7 c7 f7;have dt:Hid ((x.phis.map (phiV src s1)).length=pl):=h! (by rw[aZ,fl.out]);go_loopw [8,47] (fun t i wr=>∃(q:Nat) (S:Foot) (a:Option Addr) (c:Nat),q<=pl/\i=.int .i64 q/\t=.slice a q c/\fP wr S (.slice a q c) ((x.phis.map (phiV src s1)).take q)/\nH W2.heap.size S/\qJ W2 wr) (fun _ i _=>pl - (intOf i).toNat)
 case atStart=>exact⟨0,Foot.none,none,0,aL _,rfl,rfl,fP.nil none,fun _ h=>h.elim,gg.out⟩
 case round=>
  obtain⟨q,S,a5,c5,hq,rfl,rfl,hO,hF,hs⟩:=hrel;clear gg;have HS:=h! hs;have HO:=h! hO;have HF:=h! hF;have ck:=h! (dr.later hs);have ae:Hid (Below w0.heap.size w0 wr):=h! (cw.trans (Below.mono hs cw.size));clear hs hO hF;by_cases hlt:q<pl
  ·obtain⟨rfl,cy⟩:=jq.out (by omega);obtain⟨p,hp⟩:∃p,x.phis[q]? =some p:=⟨_,aA (by have:=fl.out;omega)⟩;have fy:=aG hp;obtain⟨af,ey,cf,ci,cG⟩:=iy.out q p hp;obtain⟨z0,z1,z2,z3,-,-,-,-⟩:=cG.below ae.out cy;have hI:=h! cG.src;obtain⟨ix,fw⟩:∃ix,ix=p.src.idxOf src:=⟨_,rfl⟩;obtain⟨iv,jt⟩:=aIU di.out HX.out fy (gw p fy);rw[<-fw]at iv jt;obtain⟨vb,vo,vc,kc,hL,iz⟩:=kD cG.vals (by omega)
   cases kc;obtain⟨y,hy⟩:∃y,y=p.vals.getD ix 0:=⟨_,rfl⟩;have hh:=iz ix iv;rw[<-hy]at hh;have hn:Hid (∀W,Below wr.heap.size wr W->W.cell? ⟨vb,vo+ix,none⟩=some (.int .i64 y)):=h! (fun W hb=>((w! ae hb).cell (p:=⟨vb,vo+ix,none⟩) hL).trans hh);have kd:Hid (∀W,Below wr.heap.size wr W->Calls Tryz.prog 87 #[.slice af p.src.length cf,.int .i64 src] W fun e W'=>e=.returned (.int .i64 (ix:Int))/\Below W.heap.size W W'):=h! (fun W hb=>by refine(rQ (hI.below (w! ae hb))).mono ?_;rintro e W' ⟨rfl,rfl⟩;exact⟨by rw[aHL (gw p fy),fw],Below.refl _ _⟩);have fi:Hid ((x.phis.map (phiV src s1)).take (q+1)=(x.phis.map (phiV src s1)).take q++[s1.vals y]):=h! (by rw[cX,aM,hp,hy,fw];rfl);have ch:Hid (∀wg,Below wr.heap.size wr wg->(Instr.lookup 93 (.map (some mv)) (.int .i64 y) false).run Tryz.prog wg=.ok (.int .i64 (s1.vals y)) wg):=h! (fun wg hbg=>by rw[((ck.later hbg).mp).lookup0 Tryz.underlying93 Tryz.underlying3 (iQ _) y,ck.val y]);have ef:=h! (ck.v64 y);have kv:Hid (((x.phis.map (phiV src s1)).take q).length=q):=h! (by rw[bB,dt.out];omega);have fj:Hid (Holds [] W2.heap.size wr S (fun W=>fP W S (.slice a5 q c5) ((x.phis.map (phiV src s1)).take q))):=h! (iW HO.out HF.out);obtain⟨z,hz⟩:∃z,z=s1.vals y:=⟨_,rfl⟩;rw[<-hz]at fi ch ef;clear hy hz HO cG iz hh hp fy fw jt;go_upto_region 7 with(fail);clear z0 z1 z2 z3;have db:Hid (Box (wr.alloc (.cells #[.int .i64 p.id,.int .i64 p.typ,.slice af p.src.length cf,.slice (some ⟨vb,vo,none⟩) p.vals.length ci] 78)) wr.heap.size #[.int .i64 p.id,.int .i64 p.typ,.slice af p.src.length cf,.slice (some ⟨vb,vo,none⟩) p.vals.length ci]):=h! (Box.new _ _ _);have ac:Below wr.heap.size wr (wr.alloc (.cells #[.int .i64 p.id,.int .i64 p.typ,.slice af p.src.length cf,.slice (some ⟨vb,vo,none⟩) p.vals.length ci] 78)):=(Below.refl _ _).alloc (aC _) _;have cr:=h! ac;replace fj:=h! (fj.later ac);replace HS:=h! (HS.later ac);clear ac;generalize wr.alloc (.cells #[.int .i64 p.id,.int .i64 p.typ,.slice af p.src.length cf,.slice (some ⟨vb,vo,none⟩) p.vals.length ci] 78)=w3 at*;obtain⟨cd,dl,dc⟩:=db.out;refine wp_region_grow 15 (fun kz=>match kz with|10=>.const (.int .i64 (ix:Int))|14=>.made w3.heap.size (fun b=>.slice (some ⟨b,0,none⟩) 1 1) #[.int .i64 z]|_=>.plain) (by kernel_rfl) (by kernel_rfl) ?_ (fun ν=> ?_)
   ·(intro k;(try dsimp only);split<;>first|exact True.intro|(intro u w1 w2 hu hb;exact hu.below hb))
   simp only[aP,aU,aR,aV];iterate 10 (refine Grow.val (v:= ?_) rfl rfl (fun wg hbg hdg=> ?_) ?_;rotate_left;(focus((obtain⟨dg,dn,cL⟩:=db.later hbg);(have ab:=cr.trans (hbg.mono cr.size);obtain⟨cF,cM,de⟩:=(ck.later ab).box;have fg:=ch.out wg ab;have ih:=hn.out wg ab);clear hbg hdg;first|(go_simp;done)|(go_simp;with_reducible rfl)));simp only[Act.put,aB,aE,aF])
   refine Grow.call (f:= ?_) (args:= ?_) rfl (fun wg=> ?_) (fun wg hbg hdg=> ?_) ?_;rotate_left 2;focus(first|(go_simp;done)|(go_simp;refine And.intro ?_ ?_<;>with_reducible rfl)|(go_simp;with_reducible rfl))
   focus exact Calls.mono (kd wg (w! cr hbg)) (fun e w2 ⟨he,hb2⟩=>⟨_,he,rfl,hb2⟩)
   simp only[Act.put,Known.val,aB,aE,aF];iterate 3 (refine Grow.val (v:= ?_) rfl rfl (fun wg hbg hdg=> ?_) ?_;rotate_left;(focus((obtain⟨dg,dn,cL⟩:=db.later hbg);(have ab:=cr.trans (hbg.mono cr.size);obtain⟨cF,cM,de⟩:=(ck.later ab).box;have fg:=ch.out wg ab;have ih:=hn.out wg ab);clear hbg hdg;first|(go_simp;done)|(go_simp;with_reducible rfl)));simp only[Act.put,aB,aE,aF])
   refine Grow.made (T:= ?_) rfl rfl (fun wg hbg hdg=> ?_) ?_;rotate_left;focus((obtain⟨dg,dn,cL⟩:=db.later hbg);(have ab:=cr.trans (hbg.mono cr.size);obtain⟨cF,cM,de⟩:=(ck.later ab).box;have fg:=ch.out wg ab;have ih:=hn.out wg ab);clear hbg hdg;first|(go_simp;done)|(go_simp;with_reducible rfl))
   simp only[Act.put,Known.val,aB,aE,aF];intro wg hb hf bn;obtain⟨iq,ei,hBBN,ec⟩:=hf 14 (by omega);have dk:iq≠wr.heap.size:=fun e=>by have:=cd;omega
   have nB10BN:wr.heap.size≠iq:=fun e=>dk e.symm;simp only[ei];clear ei;clear bn;clear cd dl dc;replace db:=h! (db.later hb);replace fj:=h! (fj.later hb);replace HS:=h! (HS.later hb);have BN:=h! ec;clear ec;obtain⟨cd,dl,dc⟩:=db.out;obtain⟨ke,kL,lc⟩:=BN.out;clear hf hb;clear cd dl dc ke kL lc;refine sK rfl _ _ rfl rfl rfl kv.out fj.now BN.out ef.out (by have:=gy.2;omega) ?_;intro g1 c1 jn q1 q2 q3;have ht:Hid (qJ W2 jn):=h! (Below.trans HS.out (q3.below (Below.size HS.out) (fun k _ hk=>HF k hk)));have gb:Hid (fP jn (Foot.one g1) (.slice (some ⟨g1,0,none⟩) (q+1) c1) ((x.phis.map (phiV src s1)).take (q+1))):=h! (by rw[fi.out];exact q1);have ho:Hid (nH W2.heap.size (Foot.one g1)):=h! (fun k hk=>by
    cases hk;rcases q2 with h|h
    ·exact HF _ h
    exact aT (Below.size HS.out) h)
   clear q1 q2 q3;go_wp2;go_roundw
   case rel=>exact⟨q+1,_,_,_,hlt,by go_num,rfl,gb.out,ho.out,ht.out⟩
   simp[intOf];omega
  obtain rfl:pl=q:=by omega
  have hg:Hid (fP wr S (.slice a5 pl c5) (x.phis.map (phiV src s1))):=h! (by have h9:=HO.out;rw[aI (by rw[dt.out];omega)]at h9;exact h9);obtain⟨W4,ds⟩:∃W4,W4=wr:=⟨_,rfl⟩;have kP:Hid (Box W4 b7 #[.slice bx pl bq,.slice bz cl bp,.int .i64 x.term.op,.int .i64 x.term.val,.slice al tl an,.int .i64 x.term.n]):=h! (by rw[ds];exact B7.later HS.out);have ig:Hid (Off (F1 4) W4 wr):=h! (by rw[ds];exact Off.refl _ _);have ki:Hid (Off D w W4):=h! (by rw[ds];exact jh.trans (Off.of_below HS.out _));have dd:Hid (Below w0.heap.size w0 W4):=h! (by rw[ds];exact ae);rw[<-ds]at hg;obtain⟨l7,c7,f7⟩:=B7.later HS.out;have ji:∀k,S k->¬F1 4 k:=fun k hk h=>by have h8:=HF.out k hk;have h9:=dr.lt h;omega
  have kG:=h! ji;have gz:¬F1 4 b7:=fun h=>by have h9:=it.out _ (ek 4 _ h);omega
  clear ds HO hlt hq ji ae;go_wp2_with fail;clear l7 c7 f7;go_loopw [71] (fun i wr=>∃(k:Nat) (mk:List (Int×Value)),k<=pl/\i=.int .i64 k/\MachP base bs fuel wr bm (nT s1 ((x.phis.map fun p=>(p,phiV src s1 p)).take k)) ⟨0,0,0⟩ ov av (.slice (some ⟨gv,0,none⟩) nb jp) cv mv mk F1/\Off (F1 4) W4 wr) (fun i _=>pl - (intOf i).toNat)
  case atStart=>exact⟨0,m,aL _,rfl,by rw[aU];exact ck,ig.out⟩
  obtain⟨k,mk,hk,rfl,jj,fz⟩:=hrel;clear ig ck;have ak:=h! jj;have bw:=h! fz;have hl:∀k,F1 4 k->base<=k:=fun k h=>ak.base 4 k h;have ae:Hid (Below w0.heap.size w0 wr):=h! (dd.trans (fz.below dd.size (fun k _ h=>by have:=hl k h;have:=cn.out;omega)));have B7:Hid (Box wr b7 #[.slice bx pl bq,.slice bz cl bp,.int .i64 x.term.op,.int .i64 x.term.val,.slice al tl an,.int .i64 x.term.n]):=h! (kP.off fz gz);clear jj fz;by_cases hlt:k<pl
  ·obtain⟨rfl,cy⟩:=jq.out (by omega);obtain⟨p,hp⟩:∃p,x.phis[k]? =some p:=⟨_,aA (by have:=fl.out;omega)⟩;obtain⟨af,ey,cf,ci,cG⟩:=iy.out k p hp;obtain⟨z0,z1,z2,z3,-,-,-,-⟩:=cG.below ae.out cy;obtain⟨sb,so,sc,ib,eh,ic⟩:=kD hg.ints (by rw[dt.out];omega);rw[dt.out]at ib
   cases ib;have je:S sb/\so=0:=by
    rcases hg.1.form with⟨h0,-⟩|⟨g9,c9,cur9,kn,la,-⟩
    ·rw[dt.out]at h0;omega
    injection kn with q1 q2 q3;injection q1 with q1;injection q1 with q1 q2;exact⟨by rw[q1];exact la,q2⟩
   obtain⟨z,hz⟩:∃z,z=(x.phis.map (phiV src s1)).getD k 0:=⟨_,rfl⟩;have gd:=ic k (by rw[dt.out];exact hlt);rw[<-hz]at gd;have ij:z=phiV src s1 p:=by rw[hz,aH,aM,hp];rfl
   have jr:=(bw.cell2 (p:=⟨sb,so+k,none⟩) eh (kG sb je.1)).trans gd;have gq:Hid (In64 z):=h! (by rw[hz,aH,aM,hp];exact dr.v64 _);have fi:=h! (aB3 (src:=src) (s:=s1) hp);rw[<-ij]at fi;obtain⟨sk,gh⟩:∃sk,sk=nT s1 ((x.phis.map fun p=>(p,phiV src s1 p)).take k):=⟨_,rfl⟩;have fM:Hid (nT s1 ((x.phis.map fun p=>(p,phiV src s1 p)).take (k+1))=setV sk p.id z):=h! (by rw[fi.out,aBH,gh]);rw[<-gh]at ak;clear gd ic hz ij hp cG gh je;go_upto_region 12 with(fail);clear z0 z1 z2 z3;have ex:Hid (Box (wr.alloc (.cells #[.int .i64 p.id,.int .i64 p.typ,.slice af p.src.length cf,.slice ey p.vals.length ci] 78)) wr.heap.size #[.int .i64 p.id,.int .i64 p.typ,.slice af p.src.length cf,.slice ey p.vals.length ci]):=h! (Box.new _ _ _);have ac:Below wr.heap.size wr (wr.alloc (.cells #[.int .i64 p.id,.int .i64 p.typ,.slice af p.src.length cf,.slice ey p.vals.length ci] 78)):=(Below.refl _ _).alloc (aC _) _;have cr:=h! ac;replace ak:=h! (ak.later ac);have en:sb<wr.heap.size:=bD eh bw.size;have gj:=bD en ac.size;replace bw:=h! (bw.trans (Off.of_below ac _));have ep:=(ac.cell (p:=⟨sb,so+k,none⟩) en).trans jr;clear ac jr;generalize wr.alloc (.cells #[.int .i64 p.id,.int .i64 p.typ,.slice af p.src.length cf,.slice ey p.vals.length ci] 78)=w3 at*;obtain⟨df,cx,dq⟩:=ex.out;refine wp_region_grow 10 (fun _=>.plain) (by kernel_rfl) (by kernel_rfl) ?_ (fun ν=> ?_)
   ·exact fun _=>trivial
   simp only[aP,aU,aR,aV];iterate 10 (refine Grow.val (v:= ?_) rfl rfl (fun wg hbg hdg=> ?_) ?_;rotate_left;(focus((obtain⟨dg,dn,cL⟩:=ex.later hbg);(obtain⟨cF,cM,de⟩:=(ak.later hbg).box;have hzg:=(hbg.cell (p:=⟨sb,so+k,none⟩) gj).trans ep);clear hbg hdg;first|(go_simp;done)|(go_simp;with_reducible rfl)));simp only[Act.put,aB,aE,aF])
   intro wg hb hf bn;clear bn;clear df cx dq;replace ex:=h! (ex.later hb);replace ak:=h! (ak.later hb);obtain⟨df,cx,dq⟩:=ex.out;clear hf ep;clear df cx dq;replace bw:=h! (bw.trans (Off.of_below hb _));go_wp2_with (at_mapUpdate;refine gC (q:=.i64) (b:=mv) (mm:=mk) (y:=p.id) rfl _ _ _ _ (.inl rfl) Tryz.underlying93 Tryz.underlying3 rfl ak.mp rfl ?_;intro w9 az gr ea;have hm:=h! az;have gn:=h! ea;clear az gr ea);have fd:=h! (sH ak.out gn.out);have hj:=h! (ak.put_val fd.out (by have:=dd.size;have:=bw.size;have:=cn.out;omega) gq.out hm.out);go_roundw
   case rel=>exact⟨k+1,_,hlt,by go_num,by rw[fM.out];exact hj,bw.trans fd.out⟩
   simp[intOf];omega
  obtain rfl:pl=k:=by omega
  have er:Hid (nT s1 ((x.phis.map fun p=>(p,phiV src s1 p)).take pl)=pE x src s1):=h! (by rw[aI (by rw[aZ];have:=fl.out;omega)];rfl);rw[er.out]at ak;obtain⟨s2,ia⟩:∃s2,s2=pE x src s1:=⟨_,rfl⟩;rw[<-ia]at ak ap;have kr:Hid (GoodS f fuel s2):=h! (by rw[ia];exact kh.phis di.out HX.out gw.out);have jw:Hid (aMF base bs fuel w bm b7 D #[.slice bx pl bq,.slice bz cl bp,.int .i64 x.term.op,.int .i64 x.term.val,.slice al tl an,.int .i64 x.term.n] wr s2):=h! ⟨_,ak.mach,ki.trans (bw.mono fun k _ hk=>ek 4 k hk),fun k ⟨i,hi⟩=>.inl (ek i k hi),fun⟨i,hi⟩=>by have:=it.out _ (ek i _ hi);omega,B7.out⟩;obtain⟨l7,c7,f7⟩:=B7.out;clear er ia hlt hk ak bw ae B7;go_wp2_with fail;clear l7 c7 f7;have bk:=jw;go_loopw [90] (fun i wr=>∃(k:Nat) (s':RunS),k<=cl/\i=.int .i64 k/\jV fuel (x.code.take k) s2=.go () s'/\aMF base bs fuel w bm b7 D #[.slice bx pl bq,.slice bz cl bp,.int .i64 x.term.op,.int .i64 x.term.val,.slice al tl an,.int .i64 x.term.n] wr s') (fun i _=>cl - (intOf i).toNat)
  case atStart=>exact⟨0,s2,aL _,rfl,rfl,bk.out⟩
  obtain⟨k,s',hk,rfl,bi,D1,jf,fx,ie,ik,jl⟩:=hrel;clear jw bk;have cp:=h! jf;have aq:=h! fx;have bO:=h! ie;have ej:=h! ik;have B7:=h! jl;have am:=h! bi;have fb:Hid (GoodS f fuel s'):=h! (kr.code di.out et.out (fun y hy=>dC hy) bi);have ae:Hid (Below w0.heap.size w0 wr):=h! (ir.trans (fx.below (by have:=HB.out;have:=cn.out;omega) (fun q _ hq=>by have:=il.out q hq;have:=cn.out;omega)));have hS:base<=wr.heap.size:=aT HB.out fx.size;clear jf fx ie ik jl bi;by_cases hlt:k<cl
  ·obtain⟨rfl,hN⟩:=kw.out (by omega);obtain⟨y,hy⟩:∃y,x.code[k]? =some y:=⟨_,aA (by have:=jy.out;omega)⟩;have kk:=h! (aG hy);obtain⟨aa,ca,fL⟩:=km.out k y hy;obtain⟨z0,z1,z2,z3,-,-,-,-⟩:=fL.below ae.out hN;have kf:=h! fL.args;have hv:=h! fL.n64;have hU:Hid (jV fuel (x.code.take (k+1)) s2=oneS fuel y s'):=h! (aAV hy am.out);clear hy fL am;go_upto_region 17 with(fail);clear z0 z1 z2 z3;have gm:Hid (Box (wr.alloc (.cells #[.int .i64 y.op,.int .i64 y.id,.slice aa y.args.length ca,.int .i64 y.n] 82)) wr.heap.size #[.int .i64 y.op,.int .i64 y.id,.slice aa y.args.length ca,.int .i64 y.n]):=h! (Box.new _ _ _);have ac:Below wr.heap.size wr (wr.alloc (.cells #[.int .i64 y.op,.int .i64 y.id,.slice aa y.args.length ca,.int .i64 y.n] 82)):=(Below.refl _ _).alloc (aC _) _;obtain⟨b14,dp⟩:∃b14,b14=wr.heap.size:=⟨_,rfl⟩;have fc:Hid (¬D1 b14):=h! (fun h=>by have:=cp.lt _ h;omega);have hb14w:w.heap.size<=b14:=by rw[dp];exact aq.size
   have hb14l:b14<(wr.alloc (.cells #[.int .i64 y.op,.int .i64 y.id,.slice aa y.args.length ca,.int .i64 y.n] 82)).heap.size:=by have:=gm.lt;omega
   replace cp:=h! (cp.later ac);replace aq:=h! (aq.trans (Off.of_below ac _));replace B7:=h! (B7.later ac);replace ae:=w! ae ac;replace hS:=aT hS ac.size;clear ac;rw[<-dp]at gm⊢;generalize wr.alloc (.cells #[.int .i64 y.op,.int .i64 y.id,.slice aa y.args.length ca,.int .i64 y.n] 82)=w3 at*;clear dp;go_wp2_with fail;refine(aL1 cp.out hfu fb.stp).mono ?_;rintro e w4 h9
   cases hstp:mB fuel s' with
   | over o s4=>
    rw[hstp]at h9
    obtain⟨rfl,cs⟩:=h9
    have HR:Hid (lD f fuel src at_ s=.over o s4):=h! (by have h8:=hU.out;unfold oneS at h8;rw[hstp]at h8;rw[ap.out,sW h8];rfl)
    have ed:=h! (MOk.trans aq.out bO.out cs)
    clear cs hstp
    unfold mC
    go_wp2
    refine⟨rfl, ?_⟩
    rw[HR.out]
    exact⟨rfl,ed.out⟩
   | go u s4=>
    rw[hstp]at h9
    obtain⟨rfl,D2,az,br,dv⟩:=h9
    obtain⟨gc,dz,cc⟩:=fb.step hstp
    have bf:=h! (az.facts)
    have ko:=h! az
    have fo:=h! dz
    have bj:=h! br
    have ee:=h! dv
    have dx:=h! hstp
    have dh:=h! (gm.off br fc.out)
    have cq:Hid (¬D2 b14):=h! (fun h=>(dv _ h).elim fc.out (fun h=>by omega))
    have ez:base<=w4.heap.size:=aT hS br.size
    have ag:Hid (Below w0.heap.size w0 w4):=h! (ae.trans (br.below ae.size (fun q _ hq=>by have:=cp.base q hq;have:=cn.out;omega)))
    have HCK:Hid (s4.checks+1<=s4.steps):=h! cc
    clear az br dv dz gc hstp cc
    obtain⟨ip,jm,jg⟩:=dh.out
    go_wp2_with fail
    clear ip jm jg
    refine(aLV (ar:=f.arrays) (ce:=f.cells) ko.out ez (fo.run hfu) (aIT di.out et.out kk.out) ⟨_,rfl,kf.below ag.out⟩).mono ?_
    rintro e w5 h9
    cases hin:gG y s4 with
    | over o s5=>
     rw[hin]at h9
     obtain⟨rfl,cs⟩:=h9
     have HR:Hid (lD f fuel src at_ s=.over o s5):=h! (by have h8:=hU.out;unfold oneS at h8;rw[dx.out]at h8;change _=(gG y s4).bind _ at h8;rw[hin]at h8;rw[ap.out,sW h8];rfl)
     have ed:=h! (MOk.trans aq.out bO.out (MOk.trans bj.out ee.out cs))
     clear cs hin
     unfold mC
     go_wp2
     refine⟨rfl, ?_⟩
     rw[HR.out]
     exact⟨rfl,ed.out⟩
    | go v s5=>
     rw[hin]at h9
     obtain⟨rfl,D3,ld,eb,fF⟩:=h9
     have fM:Hid (jV fuel (x.code.take (k+1)) s2=.go () (putS y v s5)):=h! (by have h8:=hU.out;unfold oneS at h8;rw[dx.out]at h8;change _=(gG y s4).bind _ at h8;rw[hin]at h8;exact h8)
     have eo:Hid (In64 v):=h! (aHI hv.out bf.1 bf.2.1 fo.len bf.2.2 hin)
     have jo:Hid (Off D w w5):=h! (Off.grow (Off.grow aq.out bj.out bO.out) eb (fun q hq=>by
      rcases ee.out q hq with h|h
      ·exact bO q h
      exact .inr (aT aq.size h)))
     have gs:Hid (∀q,D3 q->D q\/w.heap.size<=q):=h! (fun q hq=>by
      rcases fF q hq with h|h
      ·rcases ee.out q h with h|h
       ·exact bO q h
       exact .inr (aT aq.size h)
      exact .inr (aT (aT aq.size bj.size) h))
     have jc:=h! ((B7.off bj.out ej.out).off eb (fun h=>(ee _ h).elim ej.out (fun h=>by have:=B7.lt;omega)))
     have dm:Hid (¬D3 b7):=h! (fun h=>(fF _ h).elim (fun h=>(ee _ h).elim ej.out (fun h=>by have:=B7.lt;omega)) (fun h=>by have:=B7.lt;have:=bj.size;omega))
     have ao:Hid (Box w5 b14 #[.int .i64 y.op,.int .i64 y.id,.slice aa y.args.length ca,.int .i64 y.n]):=h! (dh.off eb cq.out)
     have HN145:Hid (¬D3 b14):=h! (fun h=>(fF _ h).elim cq.out (fun h=>by have:=dh.lt;omega))
     have gk:base<=w5.heap.size:=aT ez eb.size
     obtain⟨fB,fv,fp,fG,dw,m5,F5,fe,es⟩:=ld
     have ad:=h! fe
     have bh:=h! es
     clear eb fF hin fe es
     cases hid:decide (0<=y.id)
     ·have cB:Hid (putS y v s5=s5):=h! (by unfold putS;rw[if_neg (by simpa using hid)])
      obtain⟨ip,jm,jg⟩:=ao.out
      go_wp2
      go_roundw
      case rel=>exact⟨k+1,s5,hlt,by go_num,by rw[fM.out,cB.out],D3,⟨fB,fv,fp,fG,dw,m5,F5,ad.out,bh.out⟩,jo.out,gs.out,dm.out,jc.out⟩
      simp[intOf];omega
     have cB:Hid (putS y v s5=setV s5 y.id v):=h! (by unfold putS;rw[if_pos (by simpa using hid)])
     have hd:=eo
     obtain⟨bd,ba,bl⟩:=ao.out
     go_upto_region 20 with(fail)
     refine wp_region_grow 7 (fun _=>.plain) (by kernel_rfl) (by kernel_rfl) ?_ (fun ν=> ?_)
     ·exact fun _=>trivial
     simp only[aP,aU,aR,aV]
     iterate 7 (refine Grow.val (v:= ?_) rfl rfl (fun wg hbg hdg=> ?_) ?_;rotate_left;(focus((obtain⟨dg,dn,cL⟩:=ao.later hbg);(obtain⟨cF,cM,de⟩:=(ad.later hbg).box);clear hbg hdg;first|(go_simp;done)|(go_simp;with_reducible rfl)));simp only[Act.put,aB,aE,aF])
     intro wg hb hf bn
     clear bn
     clear bd ba bl
     replace ao:=h! (ao.later hb)
     replace ad:=h! (ad.later hb)
     obtain⟨bd,ba,bl⟩:=ao.out
     clear hf hid
     clear bd ba bl
     go_wp2_with (at_mapUpdate;refine gC (q:=.i64) (b:=dw) (mm:=m5) (y:=y.id) rfl _ _ _ _ (.inl rfl) Tryz.underlying93 Tryz.underlying3 rfl ad.mp rfl ?_;intro w9 az gr ea;have hm:=h! az;have gn:=h! ea;clear az gr ea)
     have fd:=h! (sH ad.out gn.out)
     have hj:=h! (ad.put_val fd.out (aT gk hb.size) hd.out hm.out)
     have ev:Hid (Off D3 w5 w9):=h! ((Off.of_below hb D3).trans (fd.mono fun q _ hq=>(bh q).2 ⟨4,hq⟩))
     have ky:=h! (jc.off ev.out dm.out)
     have kt:Hid (Off D w w9):=h! (Off.grow jo.out ev.out gs.out)
     go_roundw
     case rel=>exact⟨k+1,setV s5 y.id v,hlt,by go_num,by rw[fM.out,cB.out],D3,⟨fB,fv,fp,fG,dw,_,F5,hj.out,bh.out⟩,kt.out,gs.out,dm.out,ky.out⟩
     simp[intOf];omega
  obtain rfl:cl=k:=by omega
  have ah:Hid (jV fuel x.code s2=.go () s'):=h! (by have h8:=am.out;rw[aI (by have:=jy.out;omega)]at h8;exact h8);have hs7:wr.heap.size<=wr.heap.size:=aC _;clear am hlt hk;go_wp2_with fail;refine(aL1 cp.out hfu fb.stp).mono ?_;rintro e w4 h9
  cases hstp:mB fuel s' with
  | over o s4=>
   rw[hstp]at h9
   obtain⟨rfl,cs⟩:=h9
   have HR:Hid (lD f fuel src at_ s=.over o s4):=h! (by rw[ap.out,ah.out];show(mB fuel s').bind _=_;rw[hstp];rfl)
   have ed:=h! (MOk.trans aq.out bO.out cs)
   clear cs hstp
   unfold mC
   go_wp2
   refine⟨rfl, ?_⟩
   rw[HR.out]
   exact⟨rfl,ed.out⟩
  | go u s4=>
   rw[hstp]at h9
   obtain⟨rfl,D2,az,br,dv⟩:=h9
   obtain⟨gc,dz,cc⟩:=fb.step hstp
   have HR:Hid (lD f fuel src at_ s=endR x.term s4):=h! (by rw[ap.out,ah.out];show(mB fuel s').bind _=_;rw[hstp];rfl)
   have fo:=h! dz
   have dj:Hid (Off D w w4):=h! (Off.grow aq.out br bO.out)
   have lb:Hid (∀q,D2 q->D q\/w.heap.size<=q):=h! (fun q hq=>by
    rcases dv q hq with h|h
    ·exact bO q h
    exact .inr (aT aq.size h))
   have ew:=h! (B7.off br ej.out)
   have ag:Hid (Below w0.heap.size w0 w4):=h! (ae.trans (br.below ae.size (fun q _ hq=>by have:=cp.base q hq;have:=cn.out;omega)))
   obtain⟨fB,fv,fp,fG,dw,m5,F5,fe,es⟩:=az
   have ad:=h! fe
   have bh:=h! es
   clear br dv hstp fe es dz gc cc ah cp aq bO ej B7 fb ae
   have kl:=h! (aHZ di.out et.out)
   obtain⟨l7,c7,f7⟩:=ew.out
   go_upto_region 24 with(fail)
   clear l7 c7 f7
   have ac:Below w4.heap.size w4 (w4.alloc (.cells #[.int .i64 x.term.op,.int .i64 x.term.val,.slice al tl an,.int .i64 x.term.n] 61)):=(Below.refl _ _).alloc (aC _) _
   have aj:Hid (Box (w4.alloc (.cells #[.int .i64 x.term.op,.int .i64 x.term.val,.slice al tl an,.int .i64 x.term.n] 61)) w4.heap.size #[.int .i64 x.term.op,.int .i64 x.term.val,.slice al tl an,.int .i64 x.term.n]):=h! (Box.new _ _ _)
   replace ad:=h! (ad.later ac)
   replace dj:=h! (dj.trans (Off.of_below ac _))
   replace ag:=w! ag ac
   clear ac ew
   generalize w4.alloc (.cells #[.int .i64 x.term.op,.int .i64 x.term.val,.slice al tl an,.int .i64 x.term.n] 61)=w6 at*
   have hW:=h! (HC.to.below ag.out)
   rw[<-cj.out]at hW
   have fh:Hid (∀W,Below w6.heap.size w6 W->MOk base bs fuel w bm D s4 W):=h! (fun W hb=>⟨D2,⟨fB,fv,fp,fG,dw,m5,F5,ad.later hb,bh.out⟩,dj.trans (Off.of_below hb D),lb.out⟩)
   have ch:Hid (∀wg,Below w6.heap.size w6 wg->(Instr.lookup 93 (.map (some dw)) (.int .i64 x.term.val) false).run Tryz.prog wg=.ok (.int .i64 (s4.vals x.term.val)) wg):=h! (fun wg hbg=>by rw[((ad.later hbg).mp).lookup0 Tryz.underlying93 Tryz.underlying3 (iQ _) x.term.val,ad.val x.term.val])
   have ii:Hid (x.term.op=2->s4.vals x.term.val=0\/s4.vals x.term.val=1):=h! (fun h2=>fo.flag _ (uH di.out (tJ et.out h2) (by simp)))
   obtain⟨top,be⟩:∃top,top=x.term.op:=⟨_,rfl⟩
   obtain⟨tv,ha⟩:∃tv,tv=x.term.val:=⟨_,rfl⟩
   obtain⟨tn,hH⟩:∃tn,tn=x.term.n:=⟨_,rfl⟩
   obtain⟨z,hz⟩:∃z,z=s4.vals x.term.val:=⟨_,rfl⟩
   have bc:Hid (endR x.term s4=if top=3 then .over ⟨1,z,0⟩ s4 else if top=4 then .over ⟨2,0,tn⟩ s4 else if top=2 then .go (x.term.to.getD (1 - z).toNat 0) s4 else .go (x.term.to.getD 0 0) s4):=h! (by rw[be,hH,hz];rfl)
   rw[<-hz,<-ha]at ch
   rw[<-be,<-hz]at ii
   have kx:Hid ((top=1/\tl=1)\/(top=2/\tl=2)\/top=3\/top=4):=h! (by
    have h9:=kl.out;unfold jB at h9;simp only[aK,cR,beq_iff_eq]at h9;rw[be,cj.out];rcases h9.2 with((h8|h8)|h8)|h8
    ·exact .inl ⟨h8.1.1.1,h8.1.1.2⟩
    ·exact .inr (.inl ⟨h8.1.1,h8.1.2⟩)
    ·exact .inr (.inr (.inl h8.1.1))
    exact .inr (.inr (.inr h8.1.1.1)))
   rw[<-be,<-ha,<-hH]at aj⊢
   obtain⟨aw,ay,ax⟩:=aj.out
   clear be ha hH hz
   have hwr1:IntKind.i64.wrap 1=1:=by decide
   have hwr0:IntKind.i64.wrap 0=0:=by decide
   rcases kx.out with⟨rfl,rfl⟩|⟨rfl,rfl⟩|rfl|rfl
   ·obtain⟨tb,hK,tc,ff,hZ,cz⟩:=kD hW.out (by rw[<-cj.out];omega)
    rw[<-cj.out]at ff
    cases ff
    have da:=cz 0 (by rw[<-cj.out];omega)
    rw[dE]at da
    obtain⟨q,hq⟩:∃q,q=x.term.to.getD 0 0:=⟨_,rfl⟩
    have cg:Hid (endR x.term s4=.go q s4):=h! (by rw[bc.out,hq];rfl)
    rw[<-hq]at da
    clear cz hq
    go_wp2
    go_ret
    rw[HR.out,cg.out]
    exact⟨rfl,fh _ (Below.refl _ _)⟩
   ·obtain⟨tb,hK,tc,ff,hZ,cz⟩:=kD hW.out (by rw[<-cj.out];omega)
    rw[<-cj.out]at ff
    cases ff
    have da:=cz 0 (by rw[<-cj.out];omega)
    have gl:=cz 1 (by rw[<-cj.out];omega)
    rw[dE]at da
    obtain⟨q0,fq⟩:∃q,q=x.term.to.getD 0 0:=⟨_,rfl⟩
    obtain⟨q1,ft⟩:∃q,q=x.term.to.getD 1 0:=⟨_,rfl⟩
    rcases ii.out rfl with rfl|rfl
    ·have cg:Hid (endR x.term s4=.go q1 s4):=h! (by rw[bc.out,ft];rfl)
     rw[<-ft]at gl
     clear cz ft fq da
     go_upto_region 30 with(fail)
     refine wp_region_grow 13 (fun _=>.plain) (by kernel_rfl) (by kernel_rfl) ?_ (fun ν=> ?_)
     ·exact fun _=>trivial
     simp only[aP,aU,aR,aV]
     iterate 13 (refine Grow.val (v:= ?_) rfl rfl (fun wg hbg hdg=> ?_) ?_;rotate_left;(focus((obtain⟨dg,dn,cL⟩:=aj.later hbg);(obtain⟨cF,cM,de⟩:=(ad.later hbg).box;have fg:=ch.out wg hbg;have kp:=(hbg.cell (p:=⟨tb,hK+1,none⟩) hZ).trans gl);clear hbg hdg;first|(go_simp;done)|(go_simp;with_reducible rfl)));simp only[Act.put,aB,aE,aF])
     intro wg hb hf bn
     clear bn
     clear aw ay ax
     replace aj:=h! (aj.later hb)
     replace ad:=h! (ad.later hb)
     obtain⟨aw,ay,ax⟩:=aj.out
     clear hf
     go_wp2
     go_ret
     rw[HR.out,cg.out]
     exact⟨rfl,fh _ hb⟩
    have cg:Hid (endR x.term s4=.go q0 s4):=h! (by rw[bc.out,fq];rfl)
    rw[<-fq]at da
    clear cz ft fq gl
    go_upto_region 30 with(fail)
    refine wp_region_grow 13 (fun _=>.plain) (by kernel_rfl) (by kernel_rfl) ?_ (fun ν=> ?_)
    ·exact fun _=>trivial
    simp only[aP,aU,aR,aV]
    iterate 13 (refine Grow.val (v:= ?_) rfl rfl (fun wg hbg hdg=> ?_) ?_;rotate_left;(focus((obtain⟨dg,dn,cL⟩:=aj.later hbg);(obtain⟨cF,cM,de⟩:=(ad.later hbg).box;have fg:=ch.out wg hbg;have kp:=(hbg.cell (p:=⟨tb,hK,none⟩) hZ).trans da);clear hbg hdg;first|(go_simp;done)|(go_simp;with_reducible rfl)));simp only[Act.put,aB,aE,aF])
    intro wg hb hf bn
    clear bn
    clear aw ay ax
    replace aj:=h! (aj.later hb)
    replace ad:=h! (ad.later hb)
    obtain⟨aw,ay,ax⟩:=aj.out
    clear hf
    go_wp2
    go_ret
    rw[HR.out,cg.out]
    exact⟨rfl,fh _ hb⟩
   ·have cg:Hid (endR x.term s4=.over ⟨1,z,0⟩ s4):=h! (by rw[bc.out];rfl)
    go_upto_region 26 with(fail)
    refine wp_region_grow 9 (fun _=>.plain) (by kernel_rfl) (by kernel_rfl) ?_ (fun ν=> ?_)
    ·exact fun _=>trivial
    simp only[aP,aU,aR,aV]
    iterate 9 (refine Grow.val (v:= ?_) rfl rfl (fun wg hbg hdg=> ?_) ?_;rotate_left;(focus((obtain⟨dg,dn,cL⟩:=aj.later hbg);(obtain⟨cF,cM,de⟩:=(ad.later hbg).box;have fg:=ch.out wg hbg);clear hbg hdg;first|(go_simp;done)|(go_simp;with_reducible rfl)));simp only[Act.put,aB,aE,aF])
    intro wg hb hf bn
    clear bn
    clear aw ay ax
    replace aj:=h! (aj.later hb)
    replace ad:=h! (ad.later hb)
    obtain⟨aw,ay,ax⟩:=aj.out
    clear hf
    go_wp2
    refine⟨rfl, ?_⟩
    rw[HR.out,cg.out]
    exact⟨rfl,fh _ hb⟩
   have cg:Hid (endR x.term s4=.over ⟨2,0,tn⟩ s4):=h! (by rw[bc.out];rfl)
   go_wp2_with fail
   refine(aG4 tn).mono ?_
   rintro e w7 ⟨rfl,hb⟩
   unfold mC
   go_wp2
   refine⟨rfl, ?_⟩
   rw[HR.out,cg.out]
   exact⟨rfl,fh _ hb⟩
end Go.Proofs.YtagabiidbbhhmaaGreat
