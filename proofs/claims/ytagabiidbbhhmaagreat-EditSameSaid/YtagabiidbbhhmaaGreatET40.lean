/- Part 40. -/
import Derived.Test.YtagabiidbbhhmaaGreatET39
namespace Go.Proofs.YtagabiidbbhhmaaGreat
set_option linter.all false
set_option maxRecDepth 100000
open Go.RowKit
theorem xX{f:FuncD}{u:UseD}{d k:Int}(h:((entF f).find? fun e=>e.1 == u.id)=some (u.id,d,k)):iZ f u↔((u.pos<0/\lQ f d.toNat u.src.toNat)\/(¬u.pos<0/\mH f d k u.blk u.pos)):=
 ⟨fun⟨d2,k2,h2,h3⟩=>by rw[h]at h2;cases h2;exact h3,fun h3=>⟨d,k,h,h3⟩⟩
theorem zK(a b:Value)(w:World):(Instr.field 171 (.agg #[a,b]) 0).run Tryz.prog w=.ok a w:=by kernel_rfl
theorem aMC{f:FuncD}(hc:fO f=0){e:Int×Int×Int}(he:e∈entF f):0<=e.1:=by
 have h1:e.1∈(fX f).map (·.1):=by rw[<-uN hc];exact aN.2 ⟨e,he,rfl⟩
 unfold fX at h1;rw[bG,aJ,pP]at h1;rcases h1 with h1|h1
 ·obtain⟨i,_,h2⟩:=aN.1 h1;omega
 obtain⟨p,hp,h2⟩:=aN.1 h1;have h3:=(fT hc).2;unfold idsF idsB at h3;rw[aK,aY]at h3;have h4:=h3.2 p hp;simp at h4;omega
def aBS(f:FuncD)(c:Nat)(x:BlockD)(w:World)(e:Ending)(w':World):Prop:=∃r:Bool,e=.returned (.bool r)/\(r=true↔∀u∈uxB (x,c),iZ f u)/\Below w.heap.size w w'
theorem sC{f:FuncD}{c:Nat}{x:BlockD}(h:f.blocks[c]? =some x){u:UseD}(hu:u∈uxB (x,c)):u∈uxF f:=by unfold uxF;rw[bC];exact⟨(x,c),by rw[bA];exact h,hu⟩
set_option maxHeartbeats 25600000 in
theorem aND{f:FuncD}{w:World}{bs bt bg lg lcap bm:Nat}{ap ab:Option Addr}{np cp cb:Nat}{ar ce:Int}{pv ov lv A2:Value}{O:List Nat}{I:Nat->Option Nat}
  (hS:StrM f w bs bt bg lg lcap bm #[.slice ap np cp,.int .i64 ar,.int .i64 ce,.slice ab f.blocks.length cb] pv ov lv A2 O I) (hB:fV iI 6 w (.slice ab f.blocks.length cb) f.blocks) (hO:fQ f O) (hD:DomI f O I) (hc:fO f=0)
  {c:Nat} {x:BlockD} (hx:f.blocks[c]? =some x):
  Calls Tryz.prog 89 #[.pointer (some ⟨bs,0,none⟩),.int .i64 c] w (aBS f c x w):=by
 have ax:=h! hc;have HS:=h! hS;have HO:=h! hO;have HD:=h! hD;have HX:=h! hx;have cw:=(jH (fT hc).1).2;have gz:=(aD.1 hx).1;obtain⟨a2,c2,bb,bo,hE,gn,hbm,hL,ev,fM⟩:=fW hB
 cases hE;obtain⟨nb,cc⟩:∃nb,nb=f.blocks.length:=⟨_,rfl⟩;rw[<-cc]at gn ev hL cw gz HS;obtain⟨rfl,fz⟩:=ev (by omega);have ck:=h! cc;obtain⟨co,bz,ba,bp,bk,bc,hC⟩:=fM c x hx;have HC:=h! hC;have gi:Hid (∀(W:World) (a b:Nat),Below w.heap.size w W->a<nb->b<nb->Calls Tryz.prog 143 #[.pointer (some ⟨bt,0,none⟩),.int .i64 a,.int .i64 b] W fun e w'=>∃r:Bool,e=.returned (.bool r)/\(r=true↔lQ f a b)/\W=w'):=h! (fun W a b hW ha hb=>by refine zD (a:=a) (b:=b) (hS.t.later hW) hO hD (by rw[<-cc];exact cw) (by rw[<-cc];exact ha) (by rw[<-cc];exact hb));have hA:Hid (∀u∈uxB (x,c),∃d k:Nat->Int,True):=h! (fun u _=>⟨fun _=>0,fun _=>0,trivial⟩);have fp:=hC.phis;have fw:=hC.code;obtain⟨pl,cg⟩:∃pl,pl=x.phis.length:=⟨_,rfl⟩;obtain⟨cl,bO⟩:∃cl,cl=x.code.length:=⟨_,rfl⟩;obtain⟨ac,capc,bcd,ocd,db,hG,hcm,dy,ej,fx⟩:=gU fw;obtain⟨apx,capp,gs,gx,cM,eh,hppm,dl,bl,ct⟩:=gL fp;rw[<-cg]at cM eh dl bl;rw[<-bO]at db hG dy ej
 cases cM
 cases db;have eg:=h! cg;have dt:=h! bO;have fc:=h! bl;have ey:=h! ct;have fj:=h! ej;have ew:=h! fx;have fo:=h! hS.t.cells.1;have fL:Hid (w.cell? ⟨bg,3,none⟩=some (.slice (some ⟨bb,bo,none⟩) nb cb)):=h! (by have h9:=hS.t.graph.at 3 rfl;rw[cc];exact h9);have gg:=h! hS.t.tree.lt;have fB:=h! hS.t.graph.lt;clear hS hB hO hD hc hx hC fp fw cg bO bl ct ej fx ev fM cc hA;go_enter Tryz.func89,Tryz.ntmps89;go_upto_region 1 with(fail);have ad:=(Below.refl w.heap.size w).alloc (aC _) (.cells #[.pointer (some ⟨bs,0,none⟩)] 88);have HW:=h! ad;clear ad;have B1:=h! (Box.new w #[.pointer (some ⟨bs,0,none⟩)] 88);have ay:(w.alloc (.cells #[.pointer (some ⟨bs,0,none⟩)] 88)).heap.size=w.heap.size+1:=World.size_alloc _ _;generalize w.alloc (.cells #[.pointer (some ⟨bs,0,none⟩)] 88)=eb at*;have ad:=(Below.refl eb.heap.size eb).alloc (aC _) (.cells #[.int .i64 c] 3);replace B1:=h! (B1.later ad);replace HW:=w! HW ad;clear ad;have B2:=h! (Box.new eb #[.int .i64 c] 3);rw[ay]at B2;clear ay;generalize eb.alloc (.cells #[.int .i64 c] 3)=wv at*;obtain⟨ae,ai,am⟩:=B1.out;obtain⟨ag,ak,aj⟩:=B2.out;refine wp_region_grow 15 (fun kz=>match kz with|14=>.made wv.heap.size (fun b=>.pointer (some ⟨b,0,none⟩)) #[.slice none 0 0,.slice none 0 0,.int .i64 0,.int .i64 0,.slice none 0 0,.int .i64 0]|_=>.plain) (by kernel_rfl) (by kernel_rfl) ?_ (fun ν=> ?_)
 ·(intro k;(try dsimp only);split<;>first|exact True.intro|(intro u w1 w2 hu hb;exact hu.below hb))
 simp only[aP,aU,aR,aV];iterate 14 (refine Grow.val (v:= ?_) rfl rfl (fun wg hbg hdg=> ?_) ?_;rotate_left;(focus((obtain⟨lg0,cg0,fg0⟩:=B1.later hbg);(obtain⟨lg1,cg1,fg1⟩:=B2.later hbg);(obtain⟨xl1,xc1,xf1⟩:=(HS.later (w! HW hbg)).s;have xt:=((w! HW hbg).cell (p:=⟨bt,0,none⟩) gg.out).trans fo.out;have xg:=((w! HW hbg).cell (p:=⟨bg,3,none⟩) fB.out).trans fL.out;obtain⟨k0,k1,k2,k3,k4,k5,-,-,-,-,-,-⟩:=HC.below (w! HW hbg) fz);clear hbg hdg;first|(go_simp;done)|(go_simp;with_reducible rfl)));simp only[Act.put,aB,aE,aF])
 refine Grow.made (T:= ?_) rfl rfl (fun wg hbg hdg=> ?_) ?_;rotate_left;focus((obtain⟨lg0,cg0,fg0⟩:=B1.later hbg);(obtain⟨lg1,cg1,fg1⟩:=B2.later hbg);(obtain⟨xl1,xc1,xf1⟩:=(HS.later (w! HW hbg)).s;have xt:=((w! HW hbg).cell (p:=⟨bt,0,none⟩) gg.out).trans fo.out;have xg:=((w! HW hbg).cell (p:=⟨bg,3,none⟩) fB.out).trans fL.out;obtain⟨k0,k1,k2,k3,k4,k5,-,-,-,-,-,-⟩:=HC.below (w! HW hbg) fz);clear hbg hdg;first|(go_simp;done)|(go_simp;with_reducible rfl))
 simp only[Act.put,Known.val,aB,aE,aF];intro wg hb hf fg;obtain⟨ao,dp,da,dw⟩:=hf 14 (by omega);have di:ao≠w.heap.size:=fun e=>by have:=ae;omega
 have nB1BK:w.heap.size≠ao:=fun e=>di e.symm;have cr:ao≠w.heap.size+1:=fun e=>by have:=ag;omega
 have nB2BK:w.heap.size+1≠ao:=fun e=>cr e.symm;simp only[dp];clear dp;clear fg;have gBK:=aT HW.size da;clear da;clear ae ai am ag ak aj;replace B1:=h! (B1.later hb);replace B2:=h! (B2.later hb);replace HW:=w! HW hb;clear hb;have BK:=h! dw;clear dw;obtain⟨ae,ai,am⟩:=B1.out;obtain⟨ag,ak,aj⟩:=B2.out;obtain⟨ah,an,aq⟩:=BK.out;clear hf;go_upto_region 2 with(fail);clear ae ai am ag ak aj ah an aq;have ea:=((((((Only.set wg (ao) 0 (.slice co x.phis.length bp)).put 1 (.slice bz x.code.length bk)).put 2 (.int .i64 x.term.op)).put 3 (.int .i64 x.term.val)).put 4 (.slice ba x.term.to.length bc)).put 5 (.int .i64 x.term.n));replace B1:=h! (B1.only ea (by first|assumption|(simp;done)|omega));replace B2:=h! (B2.only ea (by first|assumption|(simp;done)|omega));replace HW:=h! (ea.2.2 HW.out (by first|assumption|omega|(have:=HW.size;omega)|(simp;done)|(simp;omega)));replace BK:=h! (Box.to (A':=#[(.slice co x.phis.length bp),(.slice bz x.code.length bk),(.int .i64 x.term.op),(.int .i64 x.term.val),(.slice ba x.term.to.length bc),(.int .i64 x.term.n)]) ((((((BK.set 0 (.slice co x.phis.length bp)).set 1 (.slice bz x.code.length bk)).set 2 (.int .i64 x.term.op)).set 3 (.int .i64 x.term.val)).set 4 (.slice ba x.term.to.length bc)).set 5 (.int .i64 x.term.n)) (by first|rfl|simp));clear ea;generalize ((((((wg.setCell ⟨ao,0,none⟩ (.slice co x.phis.length bp)).setCell ⟨ao,1,none⟩ (.slice bz x.code.length bk)).setCell ⟨ao,2,none⟩ (.int .i64 x.term.op)).setCell ⟨ao,3,none⟩ (.int .i64 x.term.val)).setCell ⟨ao,4,none⟩ (.slice ba x.term.to.length bc)).setCell ⟨ao,5,none⟩ (.int .i64 x.term.n))=w2 at*;obtain⟨ae,ai,am⟩:=B1.out;obtain⟨ag,ak,aj⟩:=B2.out;obtain⟨ah,an,aq⟩:=BK.out;rw[<-eg.out,<-dt.out]at BK;clear ae ai am ag ak aj ah an aq;obtain⟨ae,ai,am⟩:=B1.out;obtain⟨ag,ak,aj⟩:=B2.out;obtain⟨ah,an,aq⟩:=BK.out;go_wp2_with fail;go_loopw [30] (fun i wr=>∃j:Nat,j<=pl/\i=.int .i64 j/\(∀u∈(x.phis.take j).flatMap (uxP c),iZ f u)/\Below w.heap.size w wr/\Box wr w.heap.size #[.pointer (some ⟨bs,0,none⟩)]/\Box wr (w.heap.size+1) #[.int .i64 c]/\Box wr ao #[.slice co pl bp,.slice bz cl bk,.int .i64 x.term.op,.int .i64 x.term.val,.slice ba x.term.to.length bc,.int .i64 x.term.n]) (fun i _=>pl - (intOf i).toNat)
 case atStart=>exact⟨0,aL _,rfl,by simp,HW.out,B1.out,B2.out,BK.out⟩
 case round=>
  obtain⟨j,hj,rfl,bh,hW,h1,h2,h3⟩:=hrel;clear ae ai am ag ak aj ah an aq;have bn:=h! bh;replace HW:=h! hW;replace B1:=h! h1;replace B2:=h! h2;replace BK:=h! h3;clear bh hW h1 h2 h3;generalize wr=w3 at*;obtain⟨ae,ai,am⟩:=B1.out;obtain⟨ag,ak,aj⟩:=B2.out;obtain⟨ah,an,aq⟩:=BK.out;by_cases hlt:j<pl
  ·obtain⟨rfl,fd⟩:=fc.out (by omega);obtain⟨p,dg⟩:∃p,x.phis[j]? =some p:=⟨_,aA (by have:=eg.out;omega)⟩;obtain⟨af,av,cf,cv,hP⟩:=ey.out j p dg;obtain⟨m0,m1,m2,m3,r1,r2,r3,r4⟩:=hP.below HW.out fd;have hh:=h! (aG dg);have fh:=h! (iO (uxP c) x.phis j p dg);obtain⟨be,dh⟩:=(kY (fT ax.out).1).phi x (aG HX.out) p (aG dg);obtain⟨vl,cj⟩:∃vl,vl=p.vals.length:=⟨_,rfl⟩;rw[be,<-cj]at m2;rw[<-cj]at m3 dh;have dq:=h! be;have ex:=h! cj;obtain⟨av',cv',bv,ht,fm,hH,hvm,fa,et⟩:=hP.vals.parts;rw[<-cj]at fm hH fa et
   cases fm;obtain⟨af',cf',bf,ei,fs,gl,hfm,ep,ek⟩:=hP.src.parts;rw[be,<-cj]at fs gl ep ek
   cases fs;have gr:=h! fa;have gk:=h! et;have en:=h! ep;have hw:=h! ek;clear r1 r2 r3 r4 hP dg be cj fa et ep ek;go_upto_region 5 with(fail);have cL:w3.heap.size≠w.heap.size:=fun e=>by have:=ae;omega
   have nB1BP:w.heap.size≠w3.heap.size:=fun e=>cL e.symm;have cB:w3.heap.size≠w.heap.size+1:=fun e=>by have:=ag;omega
   have nB2BP:w.heap.size+1≠w3.heap.size:=fun e=>cB e.symm;have dv:w3.heap.size≠ao:=fun e=>by have:=ah;omega
   have nBKBP:ao≠w3.heap.size:=fun e=>dv e.symm;clear ae ai am ag ak aj ah an aq;have ad:=(Below.refl w3.heap.size w3).alloc (aC _) (.cells #[.int .i64 p.id,.int .i64 p.typ,.slice af vl cf,.slice av vl cv] 78);replace B1:=h! (B1.later ad);replace B2:=h! (B2.later ad);replace BK:=h! (BK.later ad);replace HW:=w! HW ad;clear ad;have BP:=h! (Box.new w3 #[.int .i64 p.id,.int .i64 p.typ,.slice af vl cf,.slice av vl cv] 78);generalize w3.alloc (.cells #[.int .i64 p.id,.int .i64 p.typ,.slice af vl cf,.slice av vl cv] 78)=w4 at*;obtain⟨ae,ai,am⟩:=B1.out;obtain⟨ag,ak,aj⟩:=B2.out;obtain⟨ah,an,aq⟩:=BK.out;obtain⟨ed,dz,ee⟩:=BP.out;clear m0 m1 m2 m3;go_wp2_with fail;go_loopw [37] (fun i wr=>∃q:Nat,q<=vl/\i=.int .i64 q/\(∀u∈(uxP c p).take q,iZ f u)/\Below w.heap.size w wr/\Box wr w.heap.size #[.pointer (some ⟨bs,0,none⟩)]/\Box wr (w.heap.size+1) #[.int .i64 c]/\Box wr ao #[.slice (some ⟨gs,gx,none⟩) pl bp,.slice bz cl bk,.int .i64 x.term.op,.int .i64 x.term.val,.slice ba x.term.to.length bc,.int .i64 x.term.n]/\Box wr w3.heap.size #[.int .i64 p.id,.int .i64 p.typ,.slice af vl cf,.slice av vl cv]) (fun i _=>vl - (intOf i).toNat)
   case atStart=>exact⟨0,aL _,rfl,by simp,HW.out,B1.out,B2.out,BK.out,BP.out⟩
   obtain⟨q,hq,rfl,bh,hW,h1,h2,h3,h4⟩:=hrel;clear ae ai am ag ak aj ah an aq ed dz ee;have dk:=h! bh;replace HW:=h! hW;replace B1:=h! h1;replace B2:=h! h2;replace BK:=h! h3;replace BP:=h! h4;clear bh hW h1 h2 h3 h4;generalize wr=w5 at*;obtain⟨ae,ai,am⟩:=B1.out;obtain⟨ag,ak,aj⟩:=B2.out;obtain⟨ah,an,aq⟩:=BK.out;obtain⟨ed,dz,ee⟩:=BP.out;by_cases hltq:q<vl
   ·obtain⟨rfl,hm⟩:=gr.out (by omega);obtain⟨rfl,gw⟩:=en.out (by omega);have ga:=(HW.cell (p:=⟨bv,ht+q,none⟩) hm).trans (gk q hltq);obtain⟨y,hy⟩:∃y,y=p.vals.getD q 0:=⟨_,rfl⟩;obtain⟨z,hz⟩:∃z,z=p.src.getD q 0:=⟨_,rfl⟩;rw[<-hy]at ga;have CF:=h! ((HW.cell (p:=⟨bf,ei+q,none⟩) gw).trans (hw q hltq));rw[<-hz]at CF;have gf:=World.block_lt_of_cell? w5 _ CF.out;have hu:(uxP c p)[q]? =some ⟨y,p.typ,c,-1,z⟩:=by unfold uxP;have dm:(p.vals.zip p.src)[q]? =some (p.vals.getD q 0,p.src.getD q 0):=cP.2 ⟨gF p.vals q (by rw[<-ex.out];exact hltq),gF p.src q (by rw[dq.out,<-ex.out];exact hltq)⟩;rw[aM,dm];rw[hy,hz];rfl
    have fi:=h! (fR _ _ _ hu);have fk:Hid ((⟨y,p.typ,c,-1,z⟩:UseD)∈uxB (x,c)):=h! (by unfold uxB;rw[cD,aJ];left;rw[bC];exact⟨p,hh.out,aG hu⟩);obtain⟨d,k,aw,cm,ci⟩:=pX ax.out (sC HX.out fk.out);obtain⟨-,-,ec⟩:=wV (fT ax.out).1 (sC HX.out fk.out);obtain⟨gb,fl⟩:=ec (by show(-1:Int)<0;omega);obtain⟨dn,rfl⟩:∃dn:Nat,d=(dn:Int):=⟨d.toNat,by omega⟩;obtain⟨sn,fF⟩:∃sn:Nat,z=(sn:Int):=⟨z.toNat,by simp only at gb;omega⟩;have hI:dn<nb:=by have:=ck.out;omega
    have hM:sn<nb:=by have:=ck.out;simp only at fl;omega
    obtain⟨r,hr⟩:∃r:Bool,r=true↔lQ f dn sn:=by
     rcases Classical.em (lQ f dn sn)with h|h
     ·exact⟨true,by simp[h]⟩
     exact⟨false,by simp[h]⟩
    have HR:Hid (r=true↔iZ f ⟨y,p.typ,c,-1,z⟩):=h! (by
     rw[xX aw,hr];have:(-1:Int)<0:=by omega
     simp[fF,this])
    have gm:Hid (∀wg,Below w5.heap.size w5 wg->Calls Tryz.prog 143 #[.pointer (some ⟨bt,0,none⟩),.int .i64 dn,.int .i64 sn] wg fun e w'=>e=.returned (.bool r)/\Below wg.heap.size wg w'):=h! (fun wg hbg=>by
     refine(gi wg dn sn (w! HW hbg) hI hM).mono ?_;rintro e w' ⟨r2,rfl,ec,rfl⟩;obtain rfl:r2=r:=by rw[cH,ec,hr]
     exact⟨rfl,Below.refl _ _⟩)
    have fG:Hid (∀wg,Below w5.heap.size w5 wg->(Instr.lookup 94 (.map (some bm)) (.int .i64 y) false).run Tryz.prog wg=.ok (.agg #[.int .i64 dn,.int .i64 k]) wg):=h! (fun wg hbg=>by rw[((HS.later (w! HW hbg)).mp).lookup0 Tryz.underlying94 Tryz.underlying3 (yA _) y,aE8 ax.out,aw];rfl);rw[fF]at CF;clear hy hz hu aw cm ci ec gb fl hr;go_upto_region 8 with(fail);clear ga;refine wp_region_grow 18 (fun kz=>match kz with|16=>.const (.bool r)|_=>.plain) (by kernel_rfl) (by kernel_rfl) ?_ (fun ν=> ?_)
    ·(intro k;(try dsimp only);split<;>first|exact True.intro|(intro u w1 w2 hu hb;exact hu.below hb))
    simp only[aP,aU,aR,aV];iterate 16 (refine Grow.val (v:= ?_) rfl rfl (fun wg hbg hdg=> ?_) ?_;rotate_left;(focus((obtain⟨lg0,cg0,fg0⟩:=B1.later hbg);(obtain⟨lg1,cg1,fg1⟩:=B2.later hbg);(obtain⟨hN,hF,hs⟩:=BK.later hbg);(obtain⟨hd,gv,hk⟩:=BP.later hbg);(obtain⟨xl1,xc1,xf1⟩:=(HS.later (w! HW hbg)).s;have hJ:=fG.out wg hbg;have hp:=zK (.int .i64 dn) (.int .i64 k) wg;have gj:=(hbg.cell (p:=⟨bf,ei+q,none⟩) gf).trans CF.out);clear hbg hdg;first|(go_simp;done)|(go_simp;with_reducible rfl)));simp only[Act.put,aB,aE,aF])
    refine Grow.call (f:= ?_) (args:= ?_) rfl (fun wg=> ?_) (fun wg hbg hdg=> ?_) ?_;rotate_left 2;focus(first|(go_simp;done)|(go_simp;refine And.intro ?_ ?_<;>with_reducible rfl)|(go_simp;with_reducible rfl))
    focus exact Calls.mono (gm wg hbg) (fun e w2 ⟨he,hb2⟩=>⟨_,he,rfl,hb2⟩)
    simp only[Act.put,Known.val,aB,aE,aF];refine Grow.val (v:= ?_) rfl rfl (fun wg hbg hdg=> ?_) ?_;rotate_left;focus((obtain⟨lg0,cg0,fg0⟩:=B1.later hbg);(obtain⟨lg1,cg1,fg1⟩:=B2.later hbg);(obtain⟨hN,hF,hs⟩:=BK.later hbg);(obtain⟨hd,gv,hk⟩:=BP.later hbg);(obtain⟨xl1,xc1,xf1⟩:=(HS.later (w! HW hbg)).s;have hJ:=fG.out wg hbg;have hp:=zK (.int .i64 dn) (.int .i64 k) wg;have gj:=(hbg.cell (p:=⟨bf,ei+q,none⟩) gf).trans CF.out);clear hbg hdg;first|(go_simp;done)|(go_simp;with_reducible rfl))
    simp only[Act.put,aB,aE,aF];intro wg hb hf fg;clear fg;clear ae ai am ag ak aj ah an aq ed dz ee;replace B1:=h! (B1.later hb);replace B2:=h! (B2.later hb);replace BK:=h! (BK.later hb);replace BP:=h! (BP.later hb);replace HW:=w! HW hb;clear hb;obtain⟨ae,ai,am⟩:=B1.out;obtain⟨ag,ak,aj⟩:=B2.out;obtain⟨ah,an,aq⟩:=BK.out;obtain⟨ed,dz,ee⟩:=BP.out;clear hf
    cases r
    ·have az:Hid (¬∀u∈uxB (x,c),iZ f u):=h! (fun h=>by have:=HR.2 (h _ fk.out);simp at this);go_wp2;go_ret;exact⟨false,rfl,⟨(fun h=>by cases h),(fun h=>absurd h az.out)⟩,HW.out⟩
    have dx:Hid (∀u∈(uxP c p).take (q+1),iZ f u):=h! (by
     rw[fi.out];intro v hv;rcases aJ.1 hv with hv|hv
     ·exact dk v hv
     rw[cC]at hv;rw[hv];exact HR.1 (by trivial))
    go_wp2;go_roundw
    case rel=>exact⟨q+1,hltq,by go_num,dx.out,HW.out,B1.out,B2.out,BK.out,BP.out⟩
    simp[intOf];omega
   have dx:Hid (∀u∈(x.phis.take (j+1)).flatMap (uxP c),iZ f u):=h! (by
    rw[fh.out];intro v hv;rcases aJ.1 hv with hv|hv
    ·exact bn v hv
    refine dk v ?_;rw[aI (by unfold uxP;rw[aZ,eS,dq.out,<-ex.out];omega)];exact hv)
   go_wp2;go_roundw
   case rel=>exact⟨j+1,hlt,by go_num,dx.out,HW.out,B1.out,B2.out,BK.out⟩
   simp[intOf];omega
  have eo:Hid (∀u∈x.phis.flatMap (uxP c),iZ f u):=h! (by have h9:=bn.out;rw[aI (by have:=eg.out;omega)]at h9;exact h9);clear bn;go_wp2_with fail;go_loopw [65] (fun i wr=>∃j2:Nat,j2<=cl/\i=.int .i64 j2/\(∀u∈(x.code.zipIdx.take j2).flatMap (uxI c),iZ f u)/\Below w.heap.size w wr/\Box wr w.heap.size #[.pointer (some ⟨bs,0,none⟩)]/\Box wr (w.heap.size+1) #[.int .i64 c]/\Box wr ao #[.slice co pl bp,.slice bz cl bk,.int .i64 x.term.op,.int .i64 x.term.val,.slice ba x.term.to.length bc,.int .i64 x.term.n]) (fun i _=>cl - (intOf i).toNat)
  case atStart=>exact⟨0,aL _,rfl,by simp,HW.out,B1.out,B2.out,BK.out⟩
  obtain⟨j2,hj2,rfl,bh,hW,h1,h2,h3⟩:=hrel;clear ae ai am ag ak aj ah an aq;have bn:=h! bh;replace HW:=h! hW;replace B1:=h! h1;replace B2:=h! h2;replace BK:=h! h3;clear bh hW h1 h2 h3;generalize wr=w5 at*;obtain⟨ae,ai,am⟩:=B1.out;obtain⟨ag,ak,aj⟩:=B2.out;obtain⟨ah,an,aq⟩:=BK.out;by_cases hlt3:j2<cl
  ·obtain⟨rfl,fd⟩:=fj.out (by omega);obtain⟨y,ef⟩:∃y,x.code[j2]? =some y:=⟨_,aA (by have:=dt.out;omega)⟩;obtain⟨aa,ca,hP⟩:=ew.out j2 y ef;obtain⟨m0,m1,m2,m3,r1,r2,r3,r4⟩:=hP.below HW.out fd;have hz:x.code.zipIdx[j2]? =some (y,j2):=by rw[dG,ef];simp
   have fh:=h! (iO (uxI c) x.code.zipIdx j2 (y,j2) hz);have gq:=h! (aG hz);have fv:=h! ((kY (fT ax.out).1).args x (aG HX.out) y (aG ef));have cs:=h! hP.args;obtain⟨al,gh⟩:∃al,al=y.args.length:=⟨_,rfl⟩;rw[<-gh]at cs m2;clear r1 r2 r3 r4 hP ef hz gh;have ez:Hid (∀u∈uxI c (y,j2),u∈uxB (x,c)):=h! (fun u hu=>by unfold uxB;rw[cD,aJ];right;rw[aJ];left;rw[bC];exact⟨(y,j2),gq.out,hu⟩);obtain⟨AV,fe⟩:∃AV:Int->Prop,AV=fun v=>∃d k,((entF f).find? fun e=>e.1 == v)=some (v,d,k)/\mH f d k c j2:=⟨_,rfl⟩;have ho:=h! fe;have dj:Hid (∀u∈uxI c (y,j2),iZ f u↔AV u.id):=h! (fun u hu=>by
    obtain⟨d,k,aw,-,-⟩:=pX ax.out (sC HX.out (ez u hu));rw[xX aw,fe];unfold uxI at hu;rw[aN]at hu;obtain⟨a,ha,rfl⟩:=hu;have hn:¬((j2:Nat):Int)<0:=by omega
    constructor
    ·rintro(h|h)
     ·exact absurd h.1 hn
     exact⟨d,k,aw,h.2⟩
    rintro⟨d2,k2,h2,h3⟩;rw[aw]at h2
    cases h2;exact .inr ⟨hn,h3⟩)
   obtain⟨g,hg⟩:∃g:Int->Bool,∀v,g v=true↔¬AV v:=⟨fun v=>@decide (¬AV v) (Classical.propDecidable _),fun v=>@decide_eq_true_iff _ (Classical.propDecidable _)⟩;have HG:=h! hg;have gy:Hid (∀(W:World) (v:Int),v∈y.args->Below w.heap.size w W->∀b3,Box W w.heap.size #[.pointer (some ⟨bs,0,none⟩)]->Box W (w.heap.size+1) #[.int .i64 c]->Box W b3 #[.int .i64 j2]->
     Calls Tryz.prog 144 #[.int .i64 v,.pointer (some ⟨w.heap.size,0,none⟩),.pointer (some ⟨w.heap.size+1,0,none⟩),.pointer (some ⟨b3,0,none⟩)] W fun e W'=>e=.returned (.bool (g v))/\Below W.heap.size W W'):=h! (fun W v hv hW b3 h1 h2 h3=>by
    obtain⟨i,hi⟩:=bS.1 hv;have fb:=(aD.1 hi).1;have hu:(⟨v,(shp0 y.op).args.getD i 0,c,j2,0⟩:UseD)∈uxI c (y,j2):=by unfold uxI;rw[aN];refine⟨(v,(shp0 y.op).args.getD i 0), ?_,rfl⟩;have dm:(y.args.zip (shp0 y.op).args)[i]? =some (v,(shp0 y.op).args.getD i 0):=cP.2 ⟨hi,gF _ i (by rw[<-fv.out];exact fb)⟩;exact aG dm
    obtain⟨d,k,aw,cm,ci⟩:=pX ax.out (sC HX.out (ez _ hu));have cn:=HS.later hW;rw[ck.out]at cn;refine(aNI cn HO.out HD.out ax.out (at_:=(j2:Int)) aw ⟨cm,ci⟩ ⟨by omega,by rw[<-ck.out];omega⟩ h1 h2 h3).mono ?_;rintro e W' ⟨r,rfl,hr,hb⟩;have:g v=r:=by
     rw[cH,hr,HG v,ho.out];constructor
     ·intro h h2;exact h ⟨d,k,aw,h2⟩
     rintro h ⟨d2,k2,h2,h3⟩;rw[aw]at h2
     cases h2;exact h h3
    rw[this];exact⟨rfl,hb⟩)
   clear fe hg;go_upto_region 15 with(fail);have ch:w5.heap.size≠w.heap.size:=fun e=>by have:=ae;omega
   have nB1B10:w.heap.size≠w5.heap.size:=fun e=>ch e.symm;have cd:w5.heap.size≠w.heap.size+1:=fun e=>by have:=ag;omega
   have nB2B10:w.heap.size+1≠w5.heap.size:=fun e=>cd e.symm;have bx:w5.heap.size≠ao:=fun e=>by have:=ah;omega
   have nBKB10:ao≠w5.heap.size:=fun e=>bx e.symm;have bq:w5.heap.size+1≠w.heap.size:=fun e=>by have:=ae;omega
   have nB1B11:w.heap.size≠w5.heap.size+1:=fun e=>bq e.symm;have bi:w5.heap.size+1≠w.heap.size+1:=fun e=>by have:=ag;omega
   have nB2B11:w.heap.size+1≠w5.heap.size+1:=fun e=>bi e.symm;have bj:w5.heap.size+1≠ao:=fun e=>by have:=ah;omega
   have nBKB11:ao≠w5.heap.size+1:=fun e=>bj e.symm;have nB11B10:w5.heap.size+1≠w5.heap.size:=by omega
   have nB10B11:w5.heap.size≠w5.heap.size+1:=by omega
   clear ae ai am ag ak aj ah an aq;have ad:=(Below.refl w5.heap.size w5).alloc (aC _) (.cells #[.int .i64 j2] 3);replace B1:=h! (B1.later ad);replace B2:=h! (B2.later ad);replace BK:=h! (BK.later ad);replace HW:=w! HW ad;clear ad;have bw:=h! (Box.new w5 #[.int .i64 j2] 3);have ay:(w5.alloc (.cells #[.int .i64 j2] 3)).heap.size=w5.heap.size+1:=World.size_alloc _ _;generalize w5.alloc (.cells #[.int .i64 j2] 3)=bd at*;have ad:=(Below.refl bd.heap.size bd).alloc (aC _) (.cells #[.int .i64 y.op,.int .i64 y.id,.slice aa al ca,.int .i64 y.n] 82);replace B1:=h! (B1.later ad);replace B2:=h! (B2.later ad);replace BK:=h! (BK.later ad);replace bw:=h! (bw.later ad);replace HW:=w! HW ad;clear ad;have ds:=h! (Box.new bd #[.int .i64 y.op,.int .i64 y.id,.slice aa al ca,.int .i64 y.n] 82);rw[ay]at ds;clear ay;generalize bd.alloc (.cells #[.int .i64 y.op,.int .i64 y.id,.slice aa al ca,.int .i64 y.n] 82)=w6 at*;obtain⟨ae,ai,am⟩:=B1.out;obtain⟨ag,ak,aj⟩:=B2.out;obtain⟨ah,an,aq⟩:=BK.out;obtain⟨cz,dr,de⟩:=bw.out;obtain⟨cq,df,cG⟩:=ds.out;clear m0 m1 m2 m3;go_wp2_with fail;refine(aHU yH g (cs.below HW.out) (fun W v hv hW=>gy W v hv (w! HW hW) _ (B1.later hW) (B2.later hW) (bw.later hW))).mono ?_;rintro e w7 ⟨he,hb⟩;obtain⟨q,hq⟩:∃q,q=y.args.any g:=⟨_,rfl⟩;rw[<-hq]at he;subst he;have HQ:=h! hq;clear hq;clear ae ai am ag ak aj ah an aq cz dr de cq df cG;replace B1:=h! (B1.later hb);replace B2:=h! (B2.later hb);replace BK:=h! (BK.later hb);replace bw:=h! (bw.later hb);replace ds:=h! (ds.later hb);replace HW:=w! HW hb;clear hb;obtain⟨ae,ai,am⟩:=B1.out;obtain⟨ag,ak,aj⟩:=B2.out;obtain⟨ah,an,aq⟩:=BK.out;obtain⟨cz,dr,de⟩:=bw.out;obtain⟨cq,df,cG⟩:=ds.out
   cases q
   ·have dx:Hid (∀u∈(x.code.zipIdx.take (j2+1)).flatMap (uxI c),iZ f u):=h! (by
     rw[fh.out];intro v hv;rcases aJ.1 hv with hv|hv
     ·exact bn v hv
     ·rw[dj v hv];have h9:=HQ.symm;rw[List.any_eq_false]at h9;unfold uxI at hv;rw[aN]at hv;obtain⟨a,ha,rfl⟩:=hv;have h8:=h9 a.1 (List.of_mem_zip ha).1;exact Classical.byContradiction fun h=>h8 ((HG a.1).2 h))
    go_wp2;go_roundw
    case rel=>exact⟨j2+1,hlt3,by go_num,dx.out,HW.out,B1.out,B2.out,BK.out⟩
    case measure=>simp[intOf];omega
   have az:Hid (¬∀u∈uxB (x,c),iZ f u):=h! (fun h=>by
    have h9:=HQ.symm;rw[fA]at h9;obtain⟨v,hv,gB⟩:=h9;obtain⟨i,hi⟩:=bS.1 hv;have fb:=(aD.1 hi).1;have hu:(⟨v,(shp0 y.op).args.getD i 0,c,j2,0⟩:UseD)∈uxI c (y,j2):=by unfold uxI;rw[aN];refine⟨(v,(shp0 y.op).args.getD i 0), ?_,rfl⟩;have dm:(y.args.zip (shp0 y.op).args)[i]? =some (v,(shp0 y.op).args.getD i 0):=cP.2 ⟨hi,gF _ i (by rw[<-fv.out];exact fb)⟩;exact aG dm
    exact(HG v).1 gB ((dj _ hu).1 (h _ (ez _ hu))))
   go_wp2;go_ret;exact⟨false,rfl,⟨(fun h=>by cases h),(fun h=>absurd h az.out)⟩,HW.out⟩
  have hK:j2=cl:=by omega
  have cF:Hid (∀u∈x.code.zipIdx.flatMap (uxI c),iZ f u):=h! (by have h9:=bn.out;rw[aI (by rw[eQ];have:=dt.out;omega)]at h9;exact h9);have er:Hid (jB f.blocks.length x.term=true):=h! (by have h9:=(fT ax.out).1;unfold gX at h9;simp only[aK,aY]at h9;have h8:=h9.2 (x,c) (by rw[bA];exact HX);unfold gV at h8;simp only[aK]at h8;exact h8.2);have dd:Hid ((∀u∈uxT c x,iZ f u)->∀u∈uxB (x,c),iZ f u):=h! (fun h u hu=>by
   unfold uxB at hu;rcases aJ.1 hu with hu|hu
   ·rcases aJ.1 hu with hu|hu
    ·exact eo u hu
    exact cF u hu
   exact h u hu)
  have ft:Hid (∀u∈uxT c x,u∈uxB (x,c)):=h! (fun u hu=>by unfold uxB;exact aJ.2 (.inr hu));clear hK bn;go_upto_region 19 with(fail);have cx:w5.heap.size≠w.heap.size:=fun e=>by have:=ae;omega
  have nB1BT:w.heap.size≠w5.heap.size:=fun e=>cx e.symm;have cy:w5.heap.size≠w.heap.size+1:=fun e=>by have:=ag;omega
  have nB2BT:w.heap.size+1≠w5.heap.size:=fun e=>cy e.symm;have dc:w5.heap.size≠ao:=fun e=>by have:=ah;omega
  have nBKBT:ao≠w5.heap.size:=fun e=>dc e.symm;clear ae ai am ag ak aj ah an aq;have ad:=(Below.refl w5.heap.size w5).alloc (aC _) (.cells #[.int .i64 x.term.op,.int .i64 x.term.val,.slice ba x.term.to.length bc,.int .i64 x.term.n] 61);replace B1:=h! (B1.later ad);replace B2:=h! (B2.later ad);replace BK:=h! (BK.later ad);replace HW:=w! HW ad;clear ad;have BT:=h! (Box.new w5 #[.int .i64 x.term.op,.int .i64 x.term.val,.slice ba x.term.to.length bc,.int .i64 x.term.n] 61);generalize w5.alloc (.cells #[.int .i64 x.term.op,.int .i64 x.term.val,.slice ba x.term.to.length bc,.int .i64 x.term.n] 61)=w6 at*;obtain⟨ae,ai,am⟩:=B1.out;obtain⟨ag,ak,aj⟩:=B2.out;obtain⟨ah,an,aq⟩:=BK.out;obtain⟨gc,fq,fy⟩:=BT.out;by_cases h23:x.term.op=2\/x.term.op=3
  ·have hu:∃t,(⟨x.term.val,t,c,x.code.length,0⟩:UseD)∈uxT c x/\∀u∈uxT c x,u=⟨x.term.val,t,c,x.code.length,0⟩:=by
    unfold uxT;rcases h23 with h|h
    ·rw[if_pos h];exact⟨2,by simp,by simp⟩
    ·rw[if_neg (by omega),if_pos h];exact⟨0,by simp,by simp⟩
   obtain⟨t,ff,gd⟩:=hu;obtain⟨d,k,aw,cm,ci⟩:=pX ax.out (sC HX.out (ft _ ff));have hv0:¬x.term.val<0:=by have h9:=aMC ax.out (eE aw);simp only at h9;omega
   have ho4:(x.term.op == 4)=false:=by simp;omega
   have ho1:(x.term.op == 1)=false:=by simp;omega
   have cn:=HS.later HW.out;rw[ck.out]at cn;have HA:=h! (ahead cn HO.out HD.out ax.out (at_:=(x.code.length:Int)) aw ⟨cm,ci⟩ (b:=(c:Int)) ⟨by omega,by rw[<-ck.out];omega⟩);rw[<-dt.out]at HA;have dj:Hid (iZ f ⟨x.term.val,t,c,x.code.length,0⟩↔mH f d k c x.code.length):=h! (by
    rw[xX aw];have hn:¬((x.code.length:Nat):Int)<0:=by omega
    exact⟨fun h=>h.elim (fun h=>absurd h.1 hn) (fun h=>h.2),fun h=>.inr ⟨hn,h⟩⟩)
   have hl:=h! ff;have gp:=h! gd;clear h23 ff gd aw cm ci cn;go_wp2_with fail;refine HA.mono ?_;rintro e w7 ⟨r,rfl,hr,hb⟩;rw[dt.out]at hr;have HR:=h! hr;clear hr HA;clear ae ai am ag ak aj ah an aq gc fq fy;replace B1:=h! (B1.later hb);replace B2:=h! (B2.later hb);replace BK:=h! (BK.later hb);replace BT:=h! (BT.later hb);replace HW:=w! HW hb;clear hb;obtain⟨ae,ai,am⟩:=B1.out;obtain⟨ag,ak,aj⟩:=B2.out;obtain⟨ah,an,aq⟩:=BK.out;obtain⟨gc,fq,fy⟩:=BT.out
   cases r
   ·have az:Hid (¬∀u∈uxB (x,c),iZ f u):=h! (fun h=>by have:=HR.2 (dj.1 (h _ (ft _ hl.out)));simp at this);go_wp2;go_ret;exact⟨false,rfl,⟨(fun h=>by cases h),(fun h=>absurd h az.out)⟩,HW.out⟩
   ·have br:Hid (∀u∈uxB (x,c),iZ f u):=h! (dd (fun u hu=>by rw[gp u hu];exact dj.2 (HR.1 (by trivial))));go_wp2;go_ret;exact⟨true,rfl,⟨(fun _=>br.out),(fun _=>by trivial)⟩,HW.out⟩
  have es:x.term.val= -1:=by have h9:=er.out;unfold jB at h9;simp at h9;omega
  have hneg:x.term.val<0:=by omega
  have br:Hid (∀u∈uxB (x,c),iZ f u):=h! (dd (fun u hu=>by
   unfold uxT at hu;rw[if_neg (fun h=>h23 (.inl h)),if_neg (fun h=>h23 (.inr h))]at hu
   cases hu))
  clear h23 es;go_wp2;go_ret;exact⟨true,rfl,⟨(fun _=>br.out),(fun _=>by trivial)⟩,HW.out⟩
end Go.Proofs.YtagabiidbbhhmaaGreat
