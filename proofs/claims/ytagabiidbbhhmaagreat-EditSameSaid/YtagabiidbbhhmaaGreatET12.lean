/- Part 12. -/
import Derived.Test.YtagabiidbbhhmaaGreatET10
namespace Go.Proofs.YtagabiidbbhhmaaGreat
set_option maxHeartbeats 6400000
set_option linter.all false
set_option maxRecDepth 100000
section
open Go.RowKit
theorem aE9{w wc:World}{f:FuncD}{bc bm:Nat}{ap ab:Option Addr}{cp cb:Nat}(hW:Below w.heap.size w wc)(hm0:w.heap.size<=bm)(hne:bc≠bm)
  (hb:Box wc bc (chk (.slice ap f.params.length cp) (.slice ab f.blocks.length cb) f.arrays f.cells bm)) (hm:IMap wc bm []) (hp:Ints w (.slice ap f.params.length cp) f.params) (hB:fV iI 6 w (.slice ab f.blocks.length cb) f.blocks):
  Calls Tryz.prog 136 #[.pointer (some ⟨bc,0,none⟩)] wc (kB (wG f) bm wc):=by
 cases h:kA f
 ·exact(aHO hb rfl rfl (hB.below iI.lasting hW) h).mono fun e w' ⟨he,hw⟩=>by subst he;exact kB.no (wE h) (Turn.of_below hw _)
 ·have h2:=h;unfold kA at h2;simp only[aK,decide_eq_true_eq]at h2;obtain⟨⟨⟨⟨⟨⟨⟨q1,q2⟩,q3⟩,q4⟩,q5⟩,q6⟩,q7⟩,q8⟩:=h2;exact aBQ hW hm0 hne hb hm rfl rfl hp hB q1 ⟨q2,q3⟩ ⟨q4,q5⟩ ⟨q6,q7⟩ q8 (aBL h)
theorem New.turn{T:TypeId}{w w1 w2:World}{u:Value}{xs:List Int}{bs:List Nat}(h:New T w w1 u xs)(ht:Turn bs w1 w2)(hb:∀b∈bs,b<w.heap.size):New T w w2 u xs:=
 h.keep fun g hg=>ht.block g (h.fresh g hg).2 fun hm=>by have:=hb g hm;have:=(h.fresh g hg).1;omega
theorem iO{α β:Type}(g:α->List β)(l:List α)(k:Nat)(x:α)(h:l[k]? =some x):(l.take (k+1)).flatMap g=(l.take k).flatMap g++g x:=by rw[cX,h];simp
theorem fR{α:Type}(l:List α)(k:Nat)(x:α)(h:l[k]? =some x):l.take (k+1)=l.take k++[x]:=by rw[cX,h];rfl
theorem gF(l:List Int)(j:Nat)(h:j<l.length):l[j]? =some (l.getD j 0):=by rw[aH,aA h];rfl
structure Goes(I:List (Int×Int)->World->Prop)(us:List (Int×Int))(W:World):Prop where
 now:I us W
 grow:∀W',Below W.heap.size W W'->I us W'
theorem Goes.later{I:List (Int×Int)->World->Prop}{us:List (Int×Int)}{W W':World}(h:Goes I us W)(hb:Below W.heap.size W W'):Goes I us W':=⟨h.grow W' hb,fun W'' hb'=>h.grow W'' (hb.trans (hb'.mono hb.size))⟩
theorem Goes.alloc{I:List (Int×Int)->World->Prop}{us:List (Int×Int)}{W:World}(h:Goes I us W)(o:Obj):Goes I us (W.alloc o):=h.later ((Below.refl _ _).alloc (aC _) o)
def aNE(k:FuncId)(cap:Array Value)(bs:List Nat)(wc:World)(I:List (Int×Int)->World->Prop):Prop:=
 ∀us u W,I us W->Turn bs wc W->Calls Tryz.prog k (#[.int .i64 u.1,.int .i64 u.2]++cap) W fun e W'=>e=.returned (.tuple #[])/\I (us++[u]) W'/\Turn bs W W'
def aMD(us:List (Int×Int))(bs:List Nat)(I:List (Int×Int)->World->Prop)(wc:World)(e:Ending)(w':World):Prop:=e=.returned (.tuple #[])/\I us w'/\Turn bs wc w'
set_option maxHeartbeats 12800000 in
theorem aME{w wc:World}{f:FuncD}{ap ab:Option Addr}{np cp nb cb:Nat}(hW:Below w.heap.size w wc)(hnb:nb=f.blocks.length)(hB:fV iI 6 w (.slice ab nb cb) f.blocks)
  (hargs:∀b∈f.blocks,∀x∈b.code,x.args.length<=(shp0 x.op).args.length) (k:FuncId) (cap:Array Value) (eg:Enters Tryz.prog k) (bs:List Nat) (hbs:∀b∈bs,w.heap.size<=b/\b<wc.heap.size) (I:List (Int×Int)->World->Prop)
  (hI:I [] wc) (hgrow:∀us W W',I us W->Below W.heap.size W W'->I us W') (hstep:aNE k cap bs wc I):
  Calls Tryz.prog 137 #[.agg #[.slice ap np cp,.int .i64 f.arrays,.int .i64 f.cells,.slice ab nb cb],.func (.func k) #[] cap] wc (aMD (lJ f) bs I wc):=by
 have ds:=h! hnb;have HI:Hid (Goes I [] wc):=h! ⟨hI,fun W' hb=>hgrow _ _ _ hI hb⟩;have HS:Hid (∀us u W,Goes I us W->Turn bs wc W->Calls Tryz.prog k (#[.int .i64 u.1,.int .i64 u.2]++cap) W fun e W'=>e=.returned (.tuple #[])/\Goes I (us++[u]) W'/\Turn bs W W'):=
  h! fun us u W h1 h2=>(hstep us u W h1.now h2).mono fun e W' ⟨he,h3,h4⟩=>⟨he,⟨h3,fun W'' hb=>hgrow _ _ _ h3 hb⟩,h4⟩
 have ez:=h! hargs;have ag:Hid (∀wr,Turn bs wc wr->Below w.heap.size w wr):=h! (fun wr ht=>hW.trans (ht.below hW.size fun x hx=>(hbs x hx).1));have ci:Hid (∀b,wc.heap.size<=b->b∉bs):=h! (fun b hb hm=>by have:=(hbs b hm).2;omega);have ev:Hid (∀b∈bs,b<wc.heap.size):=h! (fun b hb=>(hbs b hb).2);obtain⟨a2,c2,bb,bo,dr,fm,hbm,fp,dc,dx⟩:=fW hB;rw[<-hnb]at dr fm dc fp
 cases dr;have fs:=h! dc;have es:=h! dx;have HT:=h! (Turn.refl bs wc);have HW:=h! hW;clear hW hnb hB hargs hbs hI hgrow hstep dc dx;have eg1:∀(args:Array Value) (w:World),(callFunc k args).run Tryz.prog w=.ok (.enter k args) w:=eg;generalize f.arrays=ar at*;generalize f.cells=ce at*;go_enter Tryz.func137,Tryz.ntmps137;go_upto_region 1 with(fail);have ad:=(Below.refl wc.heap.size wc).alloc (aC _) (.cells #[.slice ap np cp,.int .i64 ar,.int .i64 ce,.slice ab nb cb] 25);replace HI:=h! (HI.later ad);replace HT:=h! (HT.later ad);replace HW:=w! HW ad;clear ad;have B2:=h! (Box.new wc #[.slice ap np cp,.int .i64 ar,.int .i64 ce,.slice ab nb cb] 25);generalize wc.alloc (.cells #[.slice ap np cp,.int .i64 ar,.int .i64 ce,.slice ab nb cb] 25)=w1 at*;obtain⟨eo,fg,ep⟩:=B2.out;go_wp2_with fail;clear eo fg ep B2;go_loopw [19] (fun i wr=>∃j:Nat,j<=nb/\i=.int .i64 j/\Goes I ((f.blocks.take j).flatMap lI) wr/\Turn bs wc wr) (fun i _=>nb - (intOf i).toNat)
 case atStart=>exact⟨0,aL _,rfl,HI.out,HT.out⟩
 case round=>
  obtain⟨j,hj,rfl,hI,hT⟩:=hrel;replace HI:=h! hI;replace HT:=h! hT;replace HW:=h! (ag _ hT);clear hI hT;generalize wr=wb at*;by_cases hltb:j<nb
  ·obtain⟨rfl,fo⟩:=fs.out (by omega);obtain⟨x,cj⟩:∃x,f.blocks[j]? =some x:=⟨_,aA (by have:=ds.out;omega)⟩;obtain⟨bl,bm,bi,az,be,bh,hC⟩:=es.out j x cj;have fa:=h! (iO lI f.blocks j x cj);have dk:=h! (ez x (aG cj));have dq:=hC.phis;have en:=hC.code;obtain⟨pl,cw⟩:∃pl,pl=x.phis.length:=⟨_,rfl⟩;obtain⟨cl,cG⟩:∃cl,cl=x.code.length:=⟨_,rfl⟩;obtain⟨ac,capc,fl,et,cd,ex,hcm,ch,co,ej⟩:=gU en;obtain⟨apx,capp,ew,fe,cc,cm,hppm,bp,ax,cg⟩:=gL dq;obtain⟨k0,k1,k2,k3,k4,k5,q1,q2,q3,q4,q5,q6⟩:=hC.below HW.out fo;rw[<-cw]at cc cm bp ax k0;rw[<-cG]at cd ex ch co k1
   cases cc
   cases cd;have dp:=h! cw;have ef:=h! cG;have ct:=h! ax;have cx:=h! cg;have di:=h! co;have de:=h! ej;have ea:=h! (ci _ HT.size);clear cw cG ax cg co ej q1 q2 q3 q4 q5 q6 hC dq en cj;obtain⟨U,hU⟩:∃U,U=(f.blocks.take j).flatMap lI:=⟨_,rfl⟩;rw[<-hU]at HI;have HU:=h! hU;clear hU;go_upto_region 4 with(fail);have ad:=(Below.refl wb.heap.size wb).alloc (aC _) (.cells #[.slice bl pl az,.slice bm cl be,.int .i64 x.term.op,.int .i64 x.term.val,.slice bi x.term.to.length bh,.int .i64 x.term.n] 63);replace HI:=h! (HI.later ad);replace HT:=h! (HT.later ad);replace HW:=w! HW ad;clear ad;have B5:=h! (Box.new wb #[.slice bl pl az,.slice bm cl be,.int .i64 x.term.op,.int .i64 x.term.val,.slice bi x.term.to.length bh,.int .i64 x.term.n] 63);generalize wb.alloc (.cells #[.slice bl pl az,.slice bm cl be,.int .i64 x.term.op,.int .i64 x.term.val,.slice bi x.term.to.length bh,.int .i64 x.term.n] 63)=w5 at*;obtain⟨ae,aj,ai⟩:=B5.out;clear k0 k1 k2 k3 k4 k5;go_wp2_with fail;go_loopw [26] (fun i wr=>∃j1:Nat,j1<=pl/\i=.int .i64 j1/\Goes I (U++(x.phis.take j1).flatMap pQ) wr/\Turn bs wc wr/\Box wr wb.heap.size #[.slice bl pl az,.slice bm cl be,.int .i64 x.term.op,.int .i64 x.term.val,.slice bi x.term.to.length bh,.int .i64 x.term.n]) (fun i _=>pl - (intOf i).toNat)
   case atStart=>exact⟨0,Nat.zero_le _,rfl,by simpa using HI.out,HT.out,B5.out⟩
   obtain⟨j1,hj1,rfl,hI,hT,ao⟩:=hrel;clear ae aj ai;replace HI:=h! hI;replace HT:=h! hT;replace HW:=h! (ag _ hT);replace B5:=h! ao;clear hI hT ao;generalize wr=w7 at*;obtain⟨ae,aj,ai⟩:=B5.out;by_cases hlt1:j1<pl
   ·obtain⟨rfl,cL⟩:=ct.out (by omega);obtain⟨p,db⟩:∃p,x.phis[j1]? =some p:=⟨_,aA (by have:=dp.out;omega)⟩;obtain⟨af,av,cf,cv,hP⟩:=cx.out j1 p db;have dd:=h! (iO pQ x.phis j1 p db);have hV:=hP.vals;obtain⟨m0,m1,m2,m3,r1,r2,r3,r4⟩:=hP.below HW.out cL;obtain⟨vl,cM⟩:∃vl,vl=p.vals.length:=⟨_,rfl⟩;obtain⟨av',cv',bv,ov,br,cr,fi,bd,bg⟩:=hV.parts;rw[<-cM]at br cr bd bg m3
    cases br;have dt:=h! cM;have er:=h! bd;have fk:=h! bg;have fc:=h! (ci _ HT.size);have hvl16:vl<=9223372036854775807:=by omega
    clear r1 r2 r3 r4 hP db hV cM bd bg;obtain⟨UP,cF⟩:∃UP,UP=U++(x.phis.take j1).flatMap pQ:=⟨_,rfl⟩;rw[<-cF]at HI;have fb:=h! cF;clear cF;go_upto_region 7 with(fail);have bO:w7.heap.size≠wb.heap.size:=fun e=>by have:=ae;omega
    have nB5B7:wb.heap.size≠w7.heap.size:=fun e=>bO e.symm;clear ae aj ai;have ad:=(Below.refl w7.heap.size w7).alloc (aC _) (.cells #[.int .i64 p.id,.int .i64 p.typ,.slice af p.src.length cf,.slice av vl cv] 78);replace B5:=h! (B5.later ad);replace HI:=h! (HI.later ad);replace HT:=h! (HT.later ad);replace HW:=w! HW ad;clear ad;have B7:=h! (Box.new w7 #[.int .i64 p.id,.int .i64 p.typ,.slice af p.src.length cf,.slice av vl cv] 78);generalize w7.alloc (.cells #[.int .i64 p.id,.int .i64 p.typ,.slice af p.src.length cf,.slice av vl cv] 78)=w8 at*;obtain⟨ae,aj,ai⟩:=B5.out;obtain⟨ei,em,dv⟩:=B7.out;clear m0 m1 m2 m3;go_wp2_with fail;go_loopw [33] (fun i wr=>∃q:Nat,q<=vl/\i=.int .i64 q/\Goes I (UP++(pQ p).take q) wr/\Turn bs wc wr/\Box wr wb.heap.size #[.slice (some ⟨ew,fe,none⟩) pl az,.slice bm cl be,.int .i64 x.term.op,.int .i64 x.term.val,.slice bi x.term.to.length bh,.int .i64 x.term.n]/\Box wr w7.heap.size #[.int .i64 p.id,.int .i64 p.typ,.slice af p.src.length cf,.slice av vl cv]) (fun i _=>vl - (intOf i).toNat)
    case atStart=>exact⟨0,Nat.zero_le _,rfl,by simpa using HI.out,HT.out,B5.out,B7.out⟩
    obtain⟨q,hq,rfl,hI,hT,ao,ek⟩:=hrel;clear ae aj ai ei em dv;replace HI:=h! hI;replace HT:=h! hT;replace HW:=h! (ag _ hT);replace B5:=h! ao;replace B7:=h! ek;clear hI hT ao ek;generalize wr=w9 at*;obtain⟨ae,aj,ai⟩:=B5.out;obtain⟨ei,em,dv⟩:=B7.out;by_cases hlt2:q<vl
    ·obtain⟨rfl,cn⟩:=er.out (by omega);have h0:=(HW.cell cn).trans (fk q hlt2);have cs:=h! (fR (pQ p) q (p.vals.getD q 0,p.typ) (by unfold pQ;rw[aM,gF _ _ (by have:=dt.out;omega)];rfl));generalize p.vals.getD q 0=v at*;go_wp2_with (go_at_fn k;refine(HS _ (v,p.typ) _ HI.out HT.out).mono ?_;rintro e w10 ⟨rfl,am,an⟩;have ay:=h! am;have T2:=h! an;clear am an);go_roundw
     case rel=>exact⟨q+1,hlt2,by go_num,by rw[cs.out,<-List.append_assoc];exact ay,HT.trans T2.out,B5.turn T2.out ea.out,B7.turn T2.out fc.out⟩
     simp[intOf];omega
    obtain rfl:q=vl:=by omega
    rw[aI (by unfold pQ;rw[aZ];have:=dt.out;omega)]at HI;go_wp2;go_roundw
    case rel=>exact⟨j1+1,hlt1,by go_num,by rw[dd.out,<-List.append_assoc,<-fb.out];exact HI,HT.out,B5.out⟩
    simp[intOf];omega
   obtain rfl:j1=pl:=by omega
   rw[aI (by have:=dp.out;omega)]at HI;obtain⟨UC,dh⟩:∃UC,UC=U++x.phis.flatMap pQ:=⟨_,rfl⟩;rw[<-dh]at HI;have ff:=h! dh;clear dh;go_wp2_with fail;go_loopw [47] (fun i wr=>∃j2:Nat,j2<=cl/\i=.int .i64 j2/\Goes I (UC++(x.code.take j2).flatMap sF) wr/\Turn bs wc wr/\Box wr wb.heap.size #[.slice bl j1 az,.slice bm cl be,.int .i64 x.term.op,.int .i64 x.term.val,.slice bi x.term.to.length bh,.int .i64 x.term.n]) (fun i _=>cl - (intOf i).toNat)
   case atStart=>exact⟨0,Nat.zero_le _,rfl,by simpa using HI.out,HT.out,B5.out⟩
   obtain⟨j2,hj2,rfl,hI,hT,ao⟩:=hrel;clear ae aj ai;replace HI:=h! hI;replace HT:=h! hT;replace HW:=h! (ag _ hT);replace B5:=h! ao;clear hI hT ao;generalize wr=aw at*;obtain⟨ae,aj,ai⟩:=B5.out;by_cases hlt3:j2<cl
   ·obtain⟨rfl,cL⟩:=di.out (by omega);obtain⟨y,ck⟩:∃y,x.code[j2]? =some y:=⟨_,aA (by have:=ef.out;omega)⟩;obtain⟨aa,ca,hP⟩:=de.out j2 y ck;have dl:=h! (iO sF x.code j2 y ck);have bc:=h! (dk y (aG ck));have hV:=hP.args;obtain⟨m0,m1,m2,m3,r1,r2,r3,r4⟩:=hP.below HW.out cL;obtain⟨al,dg⟩:∃al,al=y.args.length:=⟨_,rfl⟩;obtain⟨aa',ca',bar,oar,br,cr,fi,bd,bg⟩:=hV.parts;rw[<-dg]at br cr bd bg m2
    cases br;have cz:=h! dg;have fd:=h! bd;have fh:=h! bg;have cB:=h! (ci _ HT.size);have hal16:al<=9223372036854775807:=by omega
    clear r1 r2 r3 r4 hP ck hV dg bd bg;obtain⟨UA,df⟩:∃UA,UA=UC++(x.code.take j2).flatMap sF:=⟨_,rfl⟩;rw[<-df]at HI;have fq:=h! df;clear df;go_upto_region 16 with(fail);have bt:aw.heap.size≠wb.heap.size:=fun e=>by have:=ae;omega
    have nB5B8:wb.heap.size≠aw.heap.size:=fun e=>bt e.symm;clear ae aj ai;have ad:=(Below.refl aw.heap.size aw).alloc (aC _) (.cells #[.int .i64 y.op,.int .i64 y.id,.slice aa al ca,.int .i64 y.n] 82);replace B5:=h! (B5.later ad);replace HI:=h! (HI.later ad);replace HT:=h! (HT.later ad);replace HW:=w! HW ad;clear ad;have B8:=h! (Box.new aw #[.int .i64 y.op,.int .i64 y.id,.slice aa al ca,.int .i64 y.n] 82);generalize aw.alloc (.cells #[.int .i64 y.op,.int .i64 y.id,.slice aa al ca,.int .i64 y.n] 82)=fj at*;obtain⟨ae,aj,ai⟩:=B5.out;obtain⟨ba,bk,bj⟩:=B8.out;clear m0 m1 m2 m3;go_wp2_with fail;have da:=h! HT.size;refine(aFN y.op).mono ?_;rintro e aq ⟨u,rfl,hu,ak⟩;obtain⟨ua,uc,rfl⟩:=hu.ints.form;have cy:Hid (sF y=y.args.zip (shp0 y.op).args):=h! rfl;obtain⟨s,hs⟩:∃s,s=shp0 y.op:=⟨_,rfl⟩;obtain⟨ok,ho⟩:∃ok,ok=(shp y.op).isSome:=⟨_,rfl⟩;rw[<-hs]at bc cy;rw[<-hs]at hu;simp only[<-hs,<-ho];have bf:=h! hu;clear hs ho hu;obtain⟨bx,ah,kn⟩:=s;simp only at*;obtain⟨sl,dj⟩:∃sl,sl=ah.length:=⟨_,rfl⟩;rw[<-dj]at bc bf⊢;have ec:=h! dj;clear dj;clear ae aj ai ba bk bj;replace B5:=h! (B5.later ak);replace B8:=h! (B8.later ak);replace HI:=h! (HI.later ak);replace HT:=h! (HT.later ak);replace HW:=w! HW ak;clear ak;obtain⟨ae,aj,ai⟩:=B5.out;obtain⟨ba,bk,bj⟩:=B8.out;have cq:=h! (ci _ HT.size);go_upto_region 17 with(fail);replace bf:=h! (bf.later ((Below.refl _ _).alloc (aC _) (.cells #[.int .i64 bx,.slice ua sl uc,.int .i64 kn] 238)));have bq:aq.heap.size≠wb.heap.size:=fun e=>by have:=ae;omega
    have nB5BS:wb.heap.size≠aq.heap.size:=fun e=>bq e.symm;have bw:aq.heap.size≠aw.heap.size:=fun e=>by have:=ba;omega
    have nB8BS:aw.heap.size≠aq.heap.size:=fun e=>bw e.symm;clear ae aj ai ba bk bj;have ad:=(Below.refl aq.heap.size aq).alloc (aC _) (.cells #[.int .i64 bx,.slice ua sl uc,.int .i64 kn] 238);replace B5:=h! (B5.later ad);replace B8:=h! (B8.later ad);replace HI:=h! (HI.later ad);replace HT:=h! (HT.later ad);replace HW:=w! HW ad;clear ad;have BS:=h! (Box.new aq #[.int .i64 bx,.slice ua sl uc,.int .i64 kn] 238);generalize aq.alloc (.cells #[.int .i64 bx,.slice ua sl uc,.int .i64 kn] 238)=w14 at*;obtain⟨ae,aj,ai⟩:=B5.out;obtain⟨ba,bk,bj⟩:=B8.out;obtain⟨eh,ee,dy⟩:=BS.out;go_wp2_with fail;go_loopw [60] (fun i wr=>∃q:Nat,q<=al/\i=.int .i64 q/\Goes I (UA++(sF y).take q) wr/\Turn bs wc wr/\Box wr wb.heap.size #[.slice bl j1 az,.slice (some ⟨fl,et,none⟩) cl be,.int .i64 x.term.op,.int .i64 x.term.val,.slice bi x.term.to.length bh,.int .i64 x.term.n]/\Box wr aw.heap.size #[.int .i64 y.op,.int .i64 y.id,.slice aa al ca,.int .i64 y.n]/\Box wr aq.heap.size #[.int .i64 bx,.slice ua sl uc,.int .i64 kn]/\New 3 fj wr (.slice ua sl uc) ah) (fun i _=>al - (intOf i).toNat)
    case atStart=>exact⟨0,Nat.zero_le _,rfl,by simpa using HI.out,HT.out,B5.out,B8.out,BS.out,bf.out⟩
    obtain⟨q,hq,rfl,hI,hT,ao,dn,dz,dw⟩:=hrel;clear ae aj ai ba bk bj eh ee dy;replace HI:=h! hI;replace HT:=h! hT;replace HW:=h! (ag _ hT);replace B5:=h! ao;replace B8:=h! dn;replace BS:=h! dz;replace bf:=h! dw;clear hI hT ao dn dz dw;generalize wr=w15 at*;obtain⟨ae,aj,ai⟩:=B5.out;obtain⟨ba,bk,bj⟩:=B8.out;obtain⟨eh,ee,dy⟩:=BS.out;by_cases hlt4:q<al
    ·obtain⟨rfl,cn⟩:=fd.out (by omega);have h0:=(HW.cell cn).trans (fh q hlt4);obtain⟨xa,xc,bsa,osa,ey,hxc,hxm,eb,dm⟩:=bf.ints.parts;have hql:q<sl:=by have h1:=bc.out;have h2:=cz.out;have h3:=ec.out;omega
     have bn:q<ah.length:=by have:=ec.out;omega
     cases ey;obtain⟨rfl,hbs2⟩:=eb (by omega);have h1:=dm q bn;have cs:=h! (fR (sF y) q (y.args.getD q 0,ah.getD q 0) (by rw[cy.out,cP];exact⟨gF _ _ (by have:=cz.out;omega),gF _ _ bn⟩));generalize y.args.getD q 0=v at*;generalize ah.getD q 0=t at*;clear dm eb;go_wp2_with (go_at_fn k;refine(HS _ (v,t) _ HI.out HT.out).mono ?_;rintro e ed ⟨rfl,am,an⟩;have ay:=h! am;have T2:=h! an;clear am an);go_roundw
     case rel=>exact⟨q+1,hlt4,by go_num,by rw[cs.out,<-List.append_assoc];exact ay,HT.trans T2.out,B5.turn T2.out ea.out,B8.turn T2.out cB.out,BS.turn T2.out cq.out,bf.turn T2.out (fun b hb=>bD (ev b hb) da.out)⟩
     simp[intOf];omega
    obtain rfl:q=al:=by omega
    rw[aI (by rw[cy.out,eS];have:=cz.out;omega)]at HI;go_wp2;go_roundw
    case rel=>exact⟨j2+1,hlt3,by go_num,by rw[dl.out,<-List.append_assoc,<-fq.out];exact HI,HT.out,B5.out⟩
    simp[intOf];omega
   obtain rfl:j2=cl:=by omega
   rw[aI (by have:=ef.out;omega)]at HI;have HE:Hid (∀l,pA x.term=l->((f.blocks.take (j+1)).flatMap lI=UC++x.code.flatMap sF++l)):=h! (fun l hl=>by rw[fa.out,<-HU.out,<-hl,ff.out];unfold lI;simp[cD])
   cases h2:(x.term.op == 2)
   ·cases h3:(x.term.op == 3)
    ·have bz:Hid (pA x.term=[]):=h! (by unfold pA;simp at h2 h3;simp[h2,h3]);go_wp2;go_roundw
     case rel=>exact⟨j+1,hltb,by go_num,by rw[HE _ bz.out,cV];exact HI,HT.out⟩
     simp[intOf];omega
    have bz:Hid (pA x.term=[(x.term.val,0)]):=h! (by unfold pA;simp at h3;simp[h3]);go_wp2_with (go_at_fn k;refine(HS _ (x.term.val,0) _ HI.out HT.out).mono ?_;rintro e ed ⟨rfl,am,an⟩;have ay:=h! am;have T2:=h! an;clear am an);go_roundw
    case rel=>exact⟨j+1,hltb,by go_num,by rw[HE _ bz.out];exact ay,HT.trans T2.out⟩
    simp[intOf];omega
   have bz:Hid (pA x.term=[(x.term.val,2)]):=h! (by unfold pA;simp at h2;simp[h2]);go_wp2_with (go_at_fn k;refine(HS _ (x.term.val,2) _ HI.out HT.out).mono ?_;rintro e ed ⟨rfl,am,an⟩;have ay:=h! am;have T2:=h! an;clear am an);go_roundw
   case rel=>exact⟨j+1,hltb,by go_num,by rw[HE _ bz.out];exact ay,HT.trans T2.out⟩
   simp[intOf];omega
  obtain rfl:j=nb:=by omega
  rw[aI (by have:=ds.out;omega)]at HI;go_wp2;exact bodyPost_ret (v:=.tuple #[]) (by simp[results,Tryz.results137,go_sem, *]) rfl ⟨rfl,HI.now,HT.out⟩
end
section
open Go.RowKit
theorem Turn.setCell{w:World}{b:Nat}(o:Nat)(v:Value):Turn [b] w (w.setCell ⟨b,o,none⟩ v):=
 ⟨rfl,rfl,rfl,by simp[World.setCell],fun k hk hn=>Below.heap_setCell w ⟨b,o,none⟩ v k (by simpa using hn)⟩
theorem IMap.other{w:World}{b:Nat}{m:List (Int×Value)}(h:IMap w b m){p:Addr}(v:Value)(hp:b≠p.block):IMap (w.setCell p v) b m:=h.keep (Below.heap_setCell w p v b hp)
structure OpenI(T:List (Int×Int))(bc bm bq be:Nat)(A:Array Value)(us:List (Int×Int))(W:World):Prop where
 map:IMap W bm (encT T)
 chk:Box W bc A
 ptr:Box W bq #[.pointer (some ⟨bc,0,none⟩)]
 err:Box W be #[.int .i64 (mQ T us)]
theorem OpenI.later{T:List (Int×Int)}{bc bm bq be:Nat}{A:Array Value}{us:List (Int×Int)}{W W':World}(h:OpenI T bc bm bq be A us W)(hb:Below W.heap.size W W'):OpenI T bc bm bq be A us W':=
 ⟨h.map.later hb,h.chk.later hb,h.ptr.later hb,h.err.later hb⟩
theorem OpenI.set{T:List (Int×Int)}{bc bm bq be:Nat}{A:Array Value}{us:List (Int×Int)}{W:World}(h:OpenI T bc bm bq be A us W)(u:Int×Int)(x:Int)(hx:mQ T (us++[u])=x)(hne:bm≠be/\bc≠be/\bq≠be):
  OpenI T bc bm bq be A (us++[u]) (W.setCell ⟨be,0,none⟩ (.int .i64 x)):=
 ⟨h.map.other _ hne.1,h.chk.other _ hne.2.1,h.ptr.other _ hne.2.2,by rw[hx];simpa using h.err.set 0 (.int .i64 x)⟩
theorem OpenI.same{T:List (Int×Int)}{bc bm bq be:Nat}{A:Array Value}{us:List (Int×Int)}{W:World}(h:OpenI T bc bm bq be A us W)(u:Int×Int)(hx:mQ T (us++[u])=mQ T us):
  OpenI T bc bm bq be A (us++[u]) W:=⟨h.map,h.chk,h.ptr,by rw[hx];exact h.err⟩
theorem aJ4{W:World}{T:List (Int×Int)}{bc bm bq be:Nat}{vp vb:Value}{ar ce:Int}{us:List (Int×Int)}(u:Int×Int)(hne:bm≠be/\bc≠be/\bq≠be)(h:OpenI T bc bm bq be (chk vp vb ar ce bm) us W):
  Calls Tryz.prog 138 #[.int .i64 u.1,.int .i64 u.2,.pointer (some ⟨bq,0,none⟩),.pointer (some ⟨be,0,none⟩)] W fun e W'=>e=.returned (.tuple #[])/\OpenI T bc bm bq be (chk vp vb ar ce bm) (us++[u]) W'/\Turn [be] W W':=by
 have H:=h! h;have ad:=h! hne;have HU:=h! (aBW T us u);obtain⟨id,aa⟩:=u;simp only at*;have hq:=h.ptr.at 0 rfl;have h4:=h.chk.at 4 (v:=.map (some bm)) rfl;have he:=h.err;have HI:=h! h.map;have ab:=h! (nI T id);obtain⟨x,hx⟩:∃x,x=mQ T us:=⟨_,rfl⟩;rw[<-hx]at he HU;have HX:=h! hx;obtain⟨le,hce,hfe⟩:=he;clear h hne hx
 cases hty:tyOf T id with
 | none=>
  rw[hty]at ab
  have ac:Hid (mQ T (us++[(id,aa)])=6):=h! (by rw[HU.out];unfold useE;simp only[hty])
  clear hty
  go_enter Tryz.func138,Tryz.ntmps138
  go_wp2_with (at_lookup;refine gO (q:=.i64) (z:=.int .i64 0) (b:=bm) (mm:=encT T) (y:=id) rfl _ _ _ rfl Tryz.underlying93 Tryz.underlying3 (iQ _) rfl HI.out rfl ?_;rw[ab.out])
  exact bodyPost_end (v:=.tuple #[]) (by simp[results,Tryz.results138,go_sem, *]) rfl ⟨rfl,H.out.set _ 6 ac.out ad.out,Turn.setCell _ _⟩
 | some t=>
  rw[hty]at ab
  have ac:Hid (mQ T (us++[(id,aa)])=if aa≠0/\t≠aa/\x=0 then 3 else x):=h! (by rw[HU.out];unfold useE;simp only[hty])
  clear hty
  cases h1:(aa != 0)<;>cases h2:(t != aa)<;>cases h3:(x == 0)
  all_goals
   have H1:=h! h1;have H2:=h! h2;have H3:=h! h3;go_enter Tryz.func138,Tryz.ntmps138;go_wp2_with (at_lookup;refine gO (q:=.i64) (z:=.int .i64 0) (b:=bm) (mm:=encT T) (y:=id) rfl _ _ _ rfl Tryz.underlying93 Tryz.underlying3 (iQ _) rfl HI.out rfl ?_;rw[ab.out]);first
    | exact bodyPost_end (v:=.tuple #[]) (by simp[results,Tryz.results138,go_sem, *]) rfl ⟨rfl,H.out.set _ 3 (by rw[ac.out,if_pos];have e1:=H1.out;have e2:=H2.out;have e3:=H3.out;simp at e1 e2 e3;exact⟨e1,e2,e3⟩) ad.out,Turn.setCell _ _⟩
    | exact bodyPost_end (v:=.tuple #[]) (by simp[results,Tryz.results138,go_sem, *]) rfl ⟨rfl,H.out.same _ (by rw[ac.out,<-HX.out,if_neg];have e1:=H1.out;have e2:=H2.out;have e3:=H3.out;simp at e1 e2 e3;rintro⟨q1,q2,q3⟩;simp_all),Turn.refl _ _⟩
theorem aBR:Enters Tryz.prog 138:=enters_of Tryz.func138 (by kernel_rfl) rfl
theorem aE0{f:FuncD}(h:gX f=true):∀b∈f.blocks,∀x∈b.code,x.args.length<=(shp0 x.op).args.length:=by intro b hb x hx;unfold gX at h;simp only[aK,aY]at h;obtain⟨j,hj,rfl⟩:=eJ hb;have h1:=h.2 (f.blocks[j],j) (by rw[bS];exact⟨j,by simp[hj]⟩);unfold gV at h1;simp only[aK,aY]at h1;have h2:=h1.1.2 x hx;unfold gR at h2;simp only[aK,beq_iff_eq]at h2;exact Nat.le_of_eq h2.1.1.2
def wF(f:FuncD)(w:World)(e:Ending)(w':World):Prop:=
 Below w.heap.size w w'/\∃m,e=.returned (.tuple #[.map m,.int .i64 (fO f)])/\(fO f=0->∃bm,m=some bm/\IMap w' bm (encT (fX f))/\w.heap.size<=bm)/\(fO f≠0->m=none)
theorem wF.bad{f:FuncD}{w w':World}{c:Int}(hb:Below w.heap.size w w')(hc:fO f=c)(h0:c≠0):wF f w (.returned (.tuple #[.map none,.int .i64 c])) w':=by subst hc;exact⟨hb,none,rfl,fun h=>absurd h h0,fun _=>rfl⟩
theorem wF.good{f:FuncD}{w w':World}{bm:Nat}(hb:Below w.heap.size w w')(hc:fO f=0)(hm:IMap w' bm (encT (fX f)))(hl:w.heap.size<=bm):wF f w (.returned (.tuple #[.map (some bm),.int .i64 0])) w':=
 ⟨hb,some bm,by rw[hc],fun _=>⟨bm,rfl,hm,hl⟩,fun h=>absurd hc h⟩
theorem aIW{w:World}{v:Value}{f:FuncD}(hv:gS w v f):Calls Tryz.prog 85 #[v] w (wF f w):=by
 obtain⟨a,b,rfl,hp,ha,hc,hB⟩:=hv;obtain⟨ap,cp,rfl⟩:=hp.form;obtain⟨ab,cb,rfl⟩:=hB.form;have HP:=h! hp;have HB:=h! hB;have bg:Hid (fO f=if gX f&&idsF f then mQ (fX f) (lJ f) else 2):=h! rfl;have cd:=h! (aHS f);obtain⟨c,bi⟩:∃c,c=fO f:=⟨_,rfl⟩;rw[<-bi]at bg;have HC:=h! bi;have ax:Hid (f.params.length=f.params.length):=h! rfl;clear hp hB ha hc bi ax;obtain⟨np,ba⟩:∃np,np=f.params.length:=⟨_,rfl⟩;obtain⟨nb,ay⟩:∃nb,nb=f.blocks.length:=⟨_,rfl⟩;obtain⟨ar,bs⟩:∃ar,ar=f.arrays:=⟨_,rfl⟩;obtain⟨ce,bf⟩:∃ce,ce=f.cells:=⟨_,rfl⟩;rw[<-ba]at HP;rw[<-ay]at HB;rw[<-ba,<-ay,<-bs,<-bf];have ax:=h! ba;have bh:=h! ay;have bk:=h! bs;have br:=h! bf;clear ba ay bs bf;have cg:=@run_makeMap Tryz.prog;go_enter Tryz.func85,Tryz.ntmps85;go_upto_region 2 with(fail);clear cg;have HI:Hid (IMap ((((w.alloc (.cells #[.slice ap np cp,.int .i64 ar,.int .i64 ce,.slice ab nb cb] 25)).alloc (.map #[] 0)).alloc (.cells #[.slice ap np cp,.int .i64 ar,.int .i64 ce,.slice ab nb cb,.map (some (w.heap.size+1))] 203)).alloc (.cells #[.pointer (some ⟨w.heap.size+1+1,0,none⟩)] 201)) (w.heap.size+1) []):=h! (by have h:=((IMap.new (w.alloc (.cells #[.slice ap np cp,.int .i64 ar,.int .i64 ce,.slice ab nb cb] 25))).alloc (.cells #[.slice ap np cp,.int .i64 ar,.int .i64 ce,.slice ab nb cb,.map (some (w.heap.size+1))] 203)).alloc (.cells #[.pointer (some ⟨w.heap.size+1+1,0,none⟩)] 201);simpa using h);have B1:Hid (Box ((((w.alloc (.cells #[.slice ap np cp,.int .i64 ar,.int .i64 ce,.slice ab nb cb] 25)).alloc (.map #[] 0)).alloc (.cells #[.slice ap np cp,.int .i64 ar,.int .i64 ce,.slice ab nb cb,.map (some (w.heap.size+1))] 203)).alloc (.cells #[.pointer (some ⟨w.heap.size+1+1,0,none⟩)] 201)) (w.heap.size) #[.slice ap np cp,.int .i64 ar,.int .i64 ce,.slice ab nb cb]):=h! ((((Box.new _ _ _).alloc _).alloc _).alloc _);have BC:Hid (Box ((((w.alloc (.cells #[.slice ap np cp,.int .i64 ar,.int .i64 ce,.slice ab nb cb] 25)).alloc (.map #[] 0)).alloc (.cells #[.slice ap np cp,.int .i64 ar,.int .i64 ce,.slice ab nb cb,.map (some (w.heap.size+1))] 203)).alloc (.cells #[.pointer (some ⟨w.heap.size+1+1,0,none⟩)] 201)) (w.heap.size+1+1) #[.slice ap np cp,.int .i64 ar,.int .i64 ce,.slice ab nb cb,.map (some (w.heap.size+1))]):=h! (by have h:=(Box.new ((w.alloc (.cells #[.slice ap np cp,.int .i64 ar,.int .i64 ce,.slice ab nb cb] 25)).alloc (.map #[] 0)) #[.slice ap np cp,.int .i64 ar,.int .i64 ce,.slice ab nb cb,.map (some (w.heap.size+1))] 203).alloc (.cells #[.pointer (some ⟨w.heap.size+1+1,0,none⟩)] 201);simpa using h);have BQ:Hid (Box ((((w.alloc (.cells #[.slice ap np cp,.int .i64 ar,.int .i64 ce,.slice ab nb cb] 25)).alloc (.map #[] 0)).alloc (.cells #[.slice ap np cp,.int .i64 ar,.int .i64 ce,.slice ab nb cb,.map (some (w.heap.size+1))] 203)).alloc (.cells #[.pointer (some ⟨w.heap.size+1+1,0,none⟩)] 201)) (w.heap.size+1+1+1) #[.pointer (some ⟨w.heap.size+1+1,0,none⟩)]):=h! (by have h:=Box.new (((w.alloc (.cells #[.slice ap np cp,.int .i64 ar,.int .i64 ce,.slice ab nb cb] 25)).alloc (.map #[] 0)).alloc (.cells #[.slice ap np cp,.int .i64 ar,.int .i64 ce,.slice ab nb cb,.map (some (w.heap.size+1))] 203)) #[.pointer (some ⟨w.heap.size+1+1,0,none⟩)] 201;simpa using h);have HW:Hid (Below w.heap.size w ((((w.alloc (.cells #[.slice ap np cp,.int .i64 ar,.int .i64 ce,.slice ab nb cb] 25)).alloc (.map #[] 0)).alloc (.cells #[.slice ap np cp,.int .i64 ar,.int .i64 ce,.slice ab nb cb,.map (some (w.heap.size+1))] 203)).alloc (.cells #[.pointer (some ⟨w.heap.size+1+1,0,none⟩)] 201))):=h! (((((Below.refl _ _).alloc (aC _) _).alloc (by simp) _).alloc (by simp;omega) _).alloc (by simp;omega) _);generalize ((((w.alloc (.cells #[.slice ap np cp,.int .i64 ar,.int .i64 ce,.slice ab nb cb] 25)).alloc (.map #[] 0)).alloc (.cells #[.slice ap np cp,.int .i64 ar,.int .i64 ce,.slice ab nb cb,.map (some (w.heap.size+1))] 203)).alloc (.cells #[.pointer (some ⟨w.heap.size+1+1,0,none⟩)] 201))=w2 at*;obtain⟨bm,bb⟩:∃bm,bm=w.heap.size+1:=⟨_,rfl⟩;obtain⟨bc,bd⟩:∃bc,bc=w.heap.size+1+1:=⟨_,rfl⟩;obtain⟨bq,bo⟩:∃bq,bq=w.heap.size+1+1+1:=⟨_,rfl⟩;obtain⟨b1,bn⟩:∃b1,b1=w.heap.size:=⟨_,rfl⟩;have n1:bc≠bm:=by omega
 have n2:bq≠bm:=by omega
 have n3:b1≠bm:=by omega
 have n4:w.heap.size<=bm:=by omega
 rw[<-bo,<-bd]at BQ;rw[<-bd,<-bb]at BC;rw[<-bb]at HI;have bv:Hid (Box w2 b1 #[.slice ap np cp,.int .i64 ar,.int .i64 ce,.slice ab nb cb]):=h! (by rw[bn];exact B1);clear B1;have B1:=bv;clear bv;have N:=h! (show bc≠bm/\bq≠bm/\b1≠bm/\w.heap.size<=bm from⟨n1,n2,n3,n4⟩);simp only[<-bo];simp only[<-bd];simp only[<-bb];rw[show(Value.pointer (some ⟨w.heap.size,0,none⟩))=.pointer (some ⟨b1,0,none⟩) by rw[bn]];clear bo bd bb bn n1 n2 n3 n4;obtain⟨ae,ah,aq⟩:=B1.out;obtain⟨af,al,ai⟩:=BC.out;obtain⟨ad,ak,an⟩:=BQ.out;go_wp2_with fail;clear ae ah aq af al ai ad ak an;have aa:Hid (Calls Tryz.prog 136 #[.pointer (some ⟨bc,0,none⟩)] w2 (kB (wG f) bm w2)):=h! (aE9 (f:=f) (ap:=ap) (cp:=cp) (ab:=ab) (cb:=cb) HW.out N.out.2.2.2 N.out.1 (by rw[<-ax.out,<-bh.out,<-bk.out,<-br.out];exact BC) HI.out (by rw[<-ax.out];exact HP) (by rw[<-bh.out];exact HB));rw[cd.out]at aa
 cases hfo:(gX f&&idsF f)
 ·have az:=h! hfo;simp only[hfo,bV,if_false]at aa;clear hfo;have bl:Hid (c=2):=h! (by rw[bg.out,az.out];rfl);refine aa.mono ?_;rintro e w3 ⟨rfl,h3,t3⟩;have T3:=h! (HW.trans (t3.below HW.size (fun x hx=>by simp at hx;subst hx;exact N.out.2.2.2)));clear h3 t3;go_wp2;go_ret2;exact wF.bad T3.out (by rw[<-HC.out,bl.out]) (by decide)
 have az:=h! hfo;simp only[hfo,if_true]at aa;clear hfo;have bl:Hid (c=mQ (fX f) (lJ f)):=h! (by rw[bg.out,az.out];rfl);refine aa.mono ?_;rintro e w3 ⟨rfl,h3,t3⟩;have T3:=h! t3;replace HI:=h! (h3 _ rfl);replace HW:=h! (HW.trans (t3.below HW.size (fun x hx=>by simp at hx;subst hx;exact N.out.2.2.2)));replace B1:=h! (B1.turn t3 (by simpa using N.out.2.2.1));replace BC:=h! (BC.turn t3 (by simpa using N.out.1));replace BQ:=h! (BQ.turn t3 (by simpa using N.out.2.1));clear h3 t3 aa;have aj:=h! (⟨HI.lt,BC.lt,BQ.lt,HW.size⟩:bm<w3.heap.size/\bc<w3.heap.size/\bq<w3.heap.size/\w.heap.size<=w3.heap.size);obtain⟨ae,ah,aq⟩:=B1.out;obtain⟨af,al,ai⟩:=BC.out;obtain⟨ad,ak,an⟩:=BQ.out;go_upto_region 5 with(fail);have ao:w3.heap.size≠b1:=fun e=>by have:=ae;omega
 have nB1BE:b1≠w3.heap.size:=fun e=>ao e.symm;have am:w3.heap.size≠bc:=fun e=>by have:=af;omega
 have nBCBE:bc≠w3.heap.size:=fun e=>am e.symm;have aw:w3.heap.size≠bq:=fun e=>by have:=ad;omega
 have nBQBE:bq≠w3.heap.size:=fun e=>aw e.symm;clear ae ah aq af al ai ad ak an;have ag:=(Below.refl w3.heap.size w3).alloc (aC _) (.cells #[.int .i64 0] 26);replace B1:=h! (B1.later ag);replace BC:=h! (BC.later ag);replace BQ:=h! (BQ.later ag);replace HI:=h! (HI.later ag);replace HW:=w! HW ag;clear ag;have BE:=h! (Box.new w3 #[.int .i64 0] 26);generalize w3.alloc (.cells #[.int .i64 0] 26)=w4 at*;obtain⟨ae,ah,aq⟩:=B1.out;obtain⟨af,al,ai⟩:=BC.out;obtain⟨ad,ak,an⟩:=BQ.out;obtain⟨bO,cf,ch⟩:=BE.out;go_wp2_with fail;clear ae ah aq af al ai ad ak an bO cf ch;have ac:Hid (Calls Tryz.prog 137 #[.agg #[.slice ap np cp,.int .i64 ar,.int .i64 ce,.slice ab nb cb],.func (.func 138) #[] #[.pointer (some ⟨bq,0,none⟩),.pointer (some ⟨w3.heap.size,0,none⟩)]] w4
   (aMD (lJ f) [w3.heap.size] (OpenI (fX f) bc bm bq w3.heap.size (chk (.slice ap np cp) (.slice ab nb cb) ar ce bm)) w4)):=h! (by
  rw[bk.out,br.out];refine aME (w:=w) HW.out bh.out HB.out (aE0 (by have:=az.out;simp at this;exact this.1)) _ _ aBR [w3.heap.size] (fun b hb=>by simp at hb;subst hb;exact⟨aj.2.2.2,BE.lt⟩) _ ?_ (fun us W W' h hb=>h.later hb) ?_
  ·refine⟨HI.out, ?_,BQ.out,BE.out⟩;rw[<-bk.out,<-br.out];exact BC
  ·intro us u W h1 h2;exact aJ4 u ⟨by have:=aj.out;omega,by have:=aj.out;omega,by have:=aj.out;omega⟩ h1)
 refine ac.mono ?_;rintro e w5 ⟨rfl,cc,bz⟩;obtain⟨bx,bp,bt,be⟩:=cc;rw[<-bl.out]at be;have bw:=h! (HW.trans (bz.below HW.size (fun x hx=>by simp at hx;subst hx;exact aj.2.2.2)));have ca:=h! bx;have BC5:=h! bp;have BQ5:=h! bt;have BE5:=h! be;have e0:=be.at 0 (v:=.int .i64 c) rfl;have e1:=bt.at 0 (v:=.pointer (some ⟨bc,0,none⟩)) rfl;have e2:=bp.at 4 (v:=.map (some bm)) rfl;clear bz bx bp bt be ac
 cases hc0:(c == 0)
 ·have bj:=h! hc0;have ci:(c != 0)=true:=by simp[bne,hc0]
  go_upto_region 7 with(fail);go_quiet (fail);go_wp2;go_ret2;exact wF.bad (fS bw.out _) HC.symm (by have:=bj.out;simpa using this)
 have bj:Hid (c=0):=h! (by simpa using hc0);have ci:(c != 0)=false:=by simp[bne,hc0]
 go_wp2;go_ret2;exact wF.good bw.out (by rw[<-HC.out,bj.out]) ca.out N.out.2.2.2
theorem aJ5{w:World}{v:Value}{f:FuncD}(hv:gS w v f):Calls Tryz.prog 68 #[v] w fun e w'=>e=.returned (.int .i64 (fO f))/\Below w.heap.size w w':=by have HV:=h! hv;obtain⟨a,b,rfl,hp,ha,hc,hB⟩:=hv;obtain⟨ap,cp,rfl⟩:=hp.form;obtain⟨ab,cb,rfl⟩:=hB.form;clear hp ha hc hB;go_enter Tryz.func68,Tryz.ntmps68;go_upto_region 1 with(fail);have aa:=(Below.refl w.heap.size w).alloc (aC _) (.cells #[.slice ap f.params.length cp,.int .i64 f.arrays,.int .i64 f.cells,.slice ab f.blocks.length cb] 25);have HW:=h! aa;clear aa;have B1:=h! (Box.new w #[.slice ap f.params.length cp,.int .i64 f.arrays,.int .i64 f.cells,.slice ab f.blocks.length cb] 25);generalize w.alloc (.cells #[.slice ap f.params.length cp,.int .i64 f.arrays,.int .i64 f.cells,.slice ab f.blocks.length cb] 25)=wv at*;obtain⟨lB1,cB1,fB1⟩:=B1.out;go_wp2_with fail;refine(aIW (HV.below HW.out)).mono ?_;rintro e w2 ⟨hb,m,rfl,_,_⟩;have HB:=w! HW hb;clear hb;go_wp2;go_ret;exact⟨rfl,HB.out⟩
def aNC(f:FuncD):Int:=if fO f=0 then mE f else 0
end
end Go.Proofs.YtagabiidbbhhmaaGreat
