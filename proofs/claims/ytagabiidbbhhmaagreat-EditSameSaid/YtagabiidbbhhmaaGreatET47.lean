/- Part 47. -/
import Derived.Test.YtagabiidbbhhmaaGreatET45
import Derived.Test.YtagabiidbbhhmaaGreatET34
namespace Go.Proofs.YtagabiidbbhhmaaGreat
set_option maxHeartbeats 25600000
set_option linter.all false
set_option maxRecDepth 100000
section
open Go.RowKit
private theorem iG.alloc{w0 W:World}(h:iG w0 W)(o:Obj):iG w0 (W.alloc o):=h.later ((Below.refl _ _).alloc (aC _) o)
def uY(k:FuncId)(cap:Array Value)(to:Int->Int)(D:Foot)(w:World):Prop:=∀(W:World) (v:Int),In64 v->Off D w W->Calls Tryz.prog k (#[.int .i64 v]++cap) W fun e W'=>e=.returned (.int .i64 (to v))/\Below W.heap.size W W'
theorem uY.off{k:FuncId}{cap:Array Value}{to:Int->Int}{D:Foot}{w W:World}(h:uY k cap to D w)(ho:Off D w W):uY k cap to D W:=fun W' v hv h2=>h W' v hv (ho.trans h2)
def aI2(w:World)(g o:Nat)(x:BlockD)(ap ai:Option Addr)(cp ci:Nat)(S1 S2:Foot)(to:Int->Int)(e:Ending)(w':World):Prop:=
 ∃W1,e=.returned (.tuple #[])/\Off (S1.or S2) w W1/\iS W1 S1 (.slice ap x.phis.length cp) (x.phis.map (mapP to))/\kF W1 S2 (.slice ai x.code.length ci) (x.code.map (mapX to))/\
  (((x.term.op=2\/x.term.op=3)/\w'=W1.setCell ⟨g,o+3,none⟩ (.int .i64 (to x.term.val)))\/(¬(x.term.op=2\/x.term.op=3)/\w'=W1))
theorem aC6{w:World}{g o:Nat}{x:BlockD}{ap ai at_:Option Addr}{cp ci ct:Nat}{S1 S2 D:Foot}{k:FuncId}{cap:Array Value}{to:Int->Int}(hC:BlockC w g o x ap ai at_ cp ci ct)(hgl:g<w.heap.size)(hfr:∀o,w.frozen? ⟨g,o,none⟩=false)
  (h1:iS w S1 (.slice ap x.phis.length cp) x.phis) (h2:kF w S2 (.slice ai x.code.length ci) x.code) (n1:¬S1 g) (n2:¬S2 g) (h12:S1.off S2) (d1:∀q,S1 q->D q) (d2:∀q,S2 q->D q)
  (eg:Enters Tryz.prog k) (hto:∀v,In64 v->In64 (to v)) (hstep:uY k cap to D w):
  Calls Tryz.prog 92 #[.pointer (some ⟨g,o,none⟩),.func (.func k) #[] cap] w (aI2 w g o x ap ai cp ci S1 S2 to):=by
 have eg1:∀(args:Array Value) (w:World),(callFunc k args).run Tryz.prog w=.ok (.enter k args) w:=eg;have c0:=hC.c0;have c1:=hC.c1;have c2:=hC.c2;have c3:=hC.c3;have dh:=h! c1;have dn:=h! c2;have dt:=h! c3;have cm:=h! hC.val64;have dv:=h! hfr;have H1:=h! h1;have H2:=h! h2;have dm:=h! h12;have cd:=h! d1;have cn:=h! d2;have dl:=h! hto;have co:=h! hstep;have dj:=h! n1;have ds:=h! n2;have dp:x.phis.length<=17592186044416:=by obtain⟨cs,G,F,hp⟩:=h1;exact hp.row.big
 have bO:x.code.length<=17592186044416:=by obtain⟨cs,G,F,hp⟩:=h2;exact hp.row.big
 obtain⟨np,da⟩:∃np,np=x.phis.length:=⟨_,rfl⟩;obtain⟨nc,cM⟩:∃nc,nc=x.code.length:=⟨_,rfl⟩;rw[<-da]at c0 H1 dp;rw[<-cM]at dh H2 bO;have bi:=h! da;have bs:=h! cM;clear c1 c2 c3 hC hfr h1 h2 h12 d1 d2 hto hstep n1 n2 da cM;go_enter Tryz.func92,Tryz.ntmps92;go_wp2_with fail;clear c0;go_loopw [17] (fun iv wr=>∃i:Nat,i<=np/\iv=.int .i64 i/\iS wr S1 (.slice ap np cp) (iU (mapP to) x.phis i)/\Off S1 w wr) (fun iv _=>np - (intOf iv).toNat)
 case atStart=>exact⟨0,aL _,rfl,by rw[iY];exact H1,Off.refl _ _⟩
 case round=>
  obtain⟨i,hi,rfl,cg,ho⟩:=hrel;have an:=h! ho;have az:=h! cg;clear cg ho;by_cases hlt:i<np
  ·obtain⟨p,hp⟩:∃p,x.phis[i]? =some p:=⟨_,aA (by rw[<-bi.out];exact hlt)⟩;obtain⟨g1,cr,af,av,cf,cv,Sv,hv,cF,cz,ax,bl,bm,ce,cy,ac⟩:=iS.vals az.out (j:=i) (p:=p) (by rw[jI];exact hp);rw[gA,<-bi.out]at hv;injection hv with e1 e2 e3;subst e1;subst e3;have HP:=h! hp;have ba:=h! bm;have cj:=h! ce;have bo:=h! ac;have m0:=ax.c0;have m1:=ax.c1;have m2:=ax.c2;have m3:=ax.c3;have cB:p.vals.length<=17592186044416:=bm.1.big;obtain⟨nv,ag⟩:∃nv,nv=p.vals.length:=⟨_,rfl⟩;obtain⟨nf,di⟩:∃nf,nf=p.src.length:=⟨_,rfl⟩;rw[<-ag]at m3 ba bo cB;rw[<-di]at m2;have al:=h! ag;clear hp bm ce ac ax cz bl cy ag di e2;go_upto_region 3 with(fail);clear m0 m1 m2 m3;have bc:Hid (Below wr.heap.size wr (wr.alloc (.cells #[.int .i64 p.id,.int .i64 p.typ,.slice af nf cf,.slice av nv cv] 78))):=h! ((Below.refl _ _).alloc (aC _) _);have B5:=h! (Box.new wr #[.int .i64 p.id,.int .i64 p.typ,.slice af nf cf,.slice av nv cv] 78);obtain⟨b5,bj⟩:∃b5,b5=wr.heap.size:=⟨_,rfl⟩;have db:Hid (∀q,Sv q->q<b5):=h! (fun q hq=>by rw[bj];exact ba.lt q hq);rw[<-bj]at B5⊢;generalize wr.alloc (.cells #[.int .i64 p.id,.int .i64 p.typ,.slice af nf cf,.slice av nv cv] 78)=w5 at*;have ch:Hid (Off S1 w w5):=h! (an.trans (Off.of_below bc.out _));have ck:Hid (fP w5 Sv (.slice av nv cv) p.vals):=h! (ba.off (Off.of_below bc.out Foot.none) (fun _ _ h=>h));have bd:Hid (∀(W':World) (vals:List Int),Off Sv w5 W'->fP W' Sv (.slice av nv cv) vals->iS W' S1 (.slice (some ⟨g1,0,none⟩) np cp) ((iU (mapP to) x.phis i).set i { p with vals:=vals })):=h! (fun W' vals h3 h4=>bo W' vals ((Off.of_below bc.out _).trans h3) h4);clear bj bc ba bo az an;obtain⟨l5,k5,f5⟩:=B5.out;go_wp2_with fail;clear l5 k5 f5;go_loopw [24] (fun iv wr=>∃q:Nat,q<=nv/\iv=.int .i64 q/\fP wr Sv (.slice av nv cv) (iU to p.vals q)/\Off Sv w5 wr) (fun iv _=>nv - (intOf iv).toNat)
   case atStart=>exact⟨0,aL _,rfl,by rw[iY];exact ck,Off.refl _ _⟩
   obtain⟨q,hq,rfl,cl,ho⟩:=hrel;have be:=h! cl;have ab:=h! ho;clear cl ho;by_cases hqt:q<nv
   ·obtain⟨v,hv⟩:∃v,p.vals[q]? =some v:=⟨_,aA (by rw[<-al.out];exact hqt)⟩;obtain⟨gv,dg,bw,ar,aw,ad,aq,-⟩:=be.addr (i:=q) (x:=v) (by rw[jI];exact hv);rw[gA,<-al.out]at bw;injection bw with e1 e2 e3;subst e1;subst e3;have ay:=ck.2 v (aG hv);have cx:=h! hv;have bz:=h! ay;have cL:=h! ar;have bn:=h! aq;have bg:=h! ad;have ak:Hid (iG wr wr):=h! (Below.refl _ _);have am:Hid (Box wr b5 #[.int .i64 p.id,.int .i64 p.typ,.slice af nf cf,.slice (some ⟨gv,0,none⟩) nv cv]):=h! (B5.off ab.out (fun h=>by have:=db.out _ h;omega));clear hv ar aq e2 ay;obtain⟨aj,ah,ae⟩:=am.out;go_upto_region 6 with(fail);clear ad;refine wp_region_grow 7 (fun kz=>match kz with|5=>.const (.int .i64 (to v))|_=>.plain) (by kernel_rfl) (by kernel_rfl) ?_ (fun ν=> ?_)
    ·(intro k;(try dsimp only);split<;>first|exact True.intro|(intro u w1 w2 hu hb;exact hu.below hb))
    simp only[aP,aU,aR,aV];iterate 5 (refine Grow.val (v:= ?_) rfl rfl (fun wg hbg hdg=> ?_) ?_;rotate_left;(focus((obtain⟨lg0,cg0,fg0⟩:=am.later hbg);clear hbg hdg;first|(go_simp;done)|(go_simp;with_reducible rfl)));simp only[Act.put,aB,aE,aF])
    refine Grow.call (f:= ?_) (args:= ?_) rfl (fun wg=> ?_) (fun wg hbg hdg=> ?_) ?_;rotate_left 2;focus(first|(go_simp;done)|(go_simp;refine And.intro ?_ ?_<;>with_reducible rfl)|(go_simp;with_reducible rfl))
    focus exact Calls.mono (co wg v bz.out (((ch.mono fun q _ h=>cd q h).trans (ab.mono fun q _ h=>cd q (cj q h))).trans (Off.of_below hbg D))) (fun e w2 ⟨he,bO⟩=>⟨_,he,rfl,bO⟩)
    simp only[Act.put,Known.val,aB,aE,aF];refine Grow.val (v:= ?_) rfl rfl (fun wg hbg hdg=> ?_) ?_;rotate_left;focus((obtain⟨lg0,cg0,fg0⟩:=am.later hbg);clear hbg hdg;first|(go_simp;done)|(go_simp;with_reducible rfl))
    simp only[Act.put,aB,aE,aF];intro wg hb hf de;clear de;clear aj ah ae;replace am:=h! (am.later hb);replace ak:=h! (ak.later hb);obtain⟨aj,ah,ae⟩:=am.out;clear hf;have bh:=(ak.cell (p:=⟨gv,q,none⟩) aw).trans bg.out;have bf:∀o,wg.frozen? ⟨gv,o,none⟩=false:=fun o=>(ak.frozen (p:=⟨gv,o,none⟩) aw).trans (bn o);have bv:Hid (fP (wg.setCell ⟨gv,q,none⟩ (.int .i64 (to v))) Sv (.slice (some ⟨gv,0,none⟩) nv cv) (iU to p.vals (q+1))):=h! (by have h9:=fP.set (be.off (Off.of_below ak.out Foot.none) (fun _ _ h=>h)) (g:=gv) (cap:=cv) (by rw[gA,<-al.out]) (i:=q) (by rw[gA,<-al.out];exact hqt) (dl v bz.out);rw[jA cx.out]at h9;exact h9);have bp:Hid (Off Sv w5 (wg.setCell ⟨gv,q,none⟩ (.int .i64 (to v)))):=h! ((ab.trans (Off.of_below ak.out _)).trans ((Off.set wg ⟨gv,q,none⟩ _).mono fun z _ hz=>by have h9:z=gv:=hz;rw[h9];exact cL));clear aj ah ae;go_wp2;clear bh bf;go_roundw
    case rel=>exact⟨q+1,hqt,by go_num,bv.out,bp.out⟩
    simp[intOf];omega
   obtain rfl:nv=q:=by omega
   have bv:Hid (iS wr S1 (.slice (some ⟨g1,0,none⟩) np cp) (iU (mapP to) x.phis (i+1))):=h! (by have h9:=be.out;rw[al.out,jN,<-al.out]at h9;have h8:=bd.out wr _ ab.out h9;have h7:=jA (g:=mapP to) HP.out;rw[<-h7];exact h8);have bp:Hid (Off S1 w wr):=h! (ch.trans (ab.mono fun z _ hz=>cj z hz));go_wp2;go_roundw
   case rel=>exact⟨i+1,hlt,by go_num,bv.out,bp.out⟩
   simp[intOf];omega
  obtain rfl:np=i:=by omega
  have dc:Hid (iS wr S1 (.slice ap np cp) (x.phis.map (mapP to))):=h! (by have h9:=az.out;rw[bi.out,jN,<-bi.out]at h9;exact h9);obtain⟨W2,dk⟩:∃W2,W2=wr:=⟨_,rfl⟩;rw[<-dk]at dc an⊢;clear dk;have c1:=(an.cell (b:=g) (o:=o+1) hgl dj.out).trans dh.out;have dd:Hid (kF W2 S2 (.slice ai nc ci) x.code):=h! (H2.off OInstr.nice an.out (fun z a b=>dm z b a));have cG:=an;clear az hlt hi an;go_wp2_with fail;clear c1;go_loopw [43] (fun iv wr=>∃i:Nat,i<=nc/\iv=.int .i64 i/\kF wr S2 (.slice ai nc ci) (iU (mapX to) x.code i)/\Off S2 W2 wr) (fun iv _=>nc - (intOf iv).toNat)
  case atStart=>exact⟨0,aL _,rfl,by rw[iY];exact dd,Off.refl _ _⟩
  obtain⟨i,hi,rfl,cg,ho⟩:=hrel;have an:=h! ho;have az:=h! cg;clear cg ho;by_cases hlt:i<nc
  ·obtain⟨y,hy⟩:∃y,x.code[i]? =some y:=⟨_,aA (by rw[<-bs.out];exact hlt)⟩;obtain⟨g1,cr,aa,ca,Sv,hv,cF,cz,ax,bl,bm,ce,cy,ac⟩:=kF.open az.out (j:=i) (y:=y) (by rw[jI];exact hy);rw[gA,<-bs.out]at hv;injection hv with e1 e2 e3;subst e1;subst e3;have HP:=h! hy;have ba:=h! bm;have cj:=h! ce;have bo:=h! ac;have m0:=ax.c0;have m1:=ax.c1;have m2:=ax.c2;have m3:=ax.c3;have cB:y.args.length<=17592186044416:=bm.1.big;obtain⟨nv,ag⟩:∃nv,nv=y.args.length:=⟨_,rfl⟩;rw[<-ag]at m2 ba bo cB;have al:=h! ag;clear hy bm ce ac ax cz bl cy ag e2;go_upto_region 12 with(fail);clear m0 m1 m2 m3;have bc:Hid (Below wr.heap.size wr (wr.alloc (.cells #[.int .i64 y.op,.int .i64 y.id,.slice aa nv ca,.int .i64 y.n] 82))):=h! ((Below.refl _ _).alloc (aC _) _);have B5:=h! (Box.new wr #[.int .i64 y.op,.int .i64 y.id,.slice aa nv ca,.int .i64 y.n] 82);obtain⟨b5,bj⟩:∃b5,b5=wr.heap.size:=⟨_,rfl⟩;have db:Hid (∀q,Sv q->q<b5):=h! (fun q hq=>by rw[bj];exact ba.lt q hq);rw[<-bj]at B5⊢;generalize wr.alloc (.cells #[.int .i64 y.op,.int .i64 y.id,.slice aa nv ca,.int .i64 y.n] 82)=w5 at*;have ch:Hid (Off S2 W2 w5):=h! (an.trans (Off.of_below bc.out _));have ck:Hid (fP w5 Sv (.slice aa nv ca) y.args):=h! (ba.off (Off.of_below bc.out Foot.none) (fun _ _ h=>h));have bd:Hid (∀(W':World) (args:List Int),Off Sv w5 W'->fP W' Sv (.slice aa nv ca) args->kF W' S2 (.slice (some ⟨g1,0,none⟩) nc ci) ((iU (mapX to) x.code i).set i { y with args:=args })):=h! (fun W' args h3 h4=>bo W' args ((Off.of_below bc.out _).trans h3) h4);clear bj bc ba bo az an;obtain⟨l5,k5,f5⟩:=B5.out;go_wp2_with fail;clear l5 k5 f5;go_loopw [50] (fun iv wr=>∃q:Nat,q<=nv/\iv=.int .i64 q/\fP wr Sv (.slice aa nv ca) (iU to y.args q)/\Off Sv w5 wr) (fun iv _=>nv - (intOf iv).toNat)
   case atStart=>exact⟨0,aL _,rfl,by rw[iY];exact ck,Off.refl _ _⟩
   obtain⟨q,hq,rfl,cl,ho⟩:=hrel;have be:=h! cl;have ab:=h! ho;clear cl ho;by_cases hqt:q<nv
   ·obtain⟨v,hv⟩:∃v,y.args[q]? =some v:=⟨_,aA (by rw[<-al.out];exact hqt)⟩;obtain⟨gv,dg,bw,ar,aw,ad,aq,-⟩:=be.addr (i:=q) (x:=v) (by rw[jI];exact hv);rw[gA,<-al.out]at bw;injection bw with e1 e2 e3;subst e1;subst e3;have ay:=ck.2 v (aG hv);have cx:=h! hv;have bz:=h! ay;have cL:=h! ar;have bn:=h! aq;have bg:=h! ad;have ak:Hid (iG wr wr):=h! (Below.refl _ _);have am:Hid (Box wr b5 #[.int .i64 y.op,.int .i64 y.id,.slice (some ⟨gv,0,none⟩) nv ca,.int .i64 y.n]):=h! (B5.off ab.out (fun h=>by have:=db.out _ h;omega));clear hv ar aq e2 ay;obtain⟨aj,ah,ae⟩:=am.out;go_upto_region 15 with(fail);clear ad;refine wp_region_grow 7 (fun kz=>match kz with|5=>.const (.int .i64 (to v))|_=>.plain) (by kernel_rfl) (by kernel_rfl) ?_ (fun ν=> ?_)
    ·(intro k;(try dsimp only);split<;>first|exact True.intro|(intro u w1 w2 hu hb;exact hu.below hb))
    simp only[aP,aU,aR,aV];iterate 5 (refine Grow.val (v:= ?_) rfl rfl (fun wg hbg hdg=> ?_) ?_;rotate_left;(focus((obtain⟨lg0,cg0,fg0⟩:=am.later hbg);clear hbg hdg;first|(go_simp;done)|(go_simp;with_reducible rfl)));simp only[Act.put,aB,aE,aF])
    refine Grow.call (f:= ?_) (args:= ?_) rfl (fun wg=> ?_) (fun wg hbg hdg=> ?_) ?_;rotate_left 2;focus(first|(go_simp;done)|(go_simp;refine And.intro ?_ ?_<;>with_reducible rfl)|(go_simp;with_reducible rfl))
    focus exact Calls.mono (co wg v bz.out ((((cG.mono fun q _ h=>cd q h).trans (ch.mono fun q _ h=>cn q h)).trans (ab.mono fun q _ h=>cn q (cj q h))).trans (Off.of_below hbg D))) (fun e w2 ⟨he,bO⟩=>⟨_,he,rfl,bO⟩)
    simp only[Act.put,Known.val,aB,aE,aF];refine Grow.val (v:= ?_) rfl rfl (fun wg hbg hdg=> ?_) ?_;rotate_left;focus((obtain⟨lg0,cg0,fg0⟩:=am.later hbg);clear hbg hdg;first|(go_simp;done)|(go_simp;with_reducible rfl))
    simp only[Act.put,aB,aE,aF];intro wg hb hf de;clear de;clear aj ah ae;replace am:=h! (am.later hb);replace ak:=h! (ak.later hb);obtain⟨aj,ah,ae⟩:=am.out;clear hf;have bh:=(ak.cell (p:=⟨gv,q,none⟩) aw).trans bg.out;have bf:∀o,wg.frozen? ⟨gv,o,none⟩=false:=fun o=>(ak.frozen (p:=⟨gv,o,none⟩) aw).trans (bn o);have bv:Hid (fP (wg.setCell ⟨gv,q,none⟩ (.int .i64 (to v))) Sv (.slice (some ⟨gv,0,none⟩) nv ca) (iU to y.args (q+1))):=h! (by have h9:=fP.set (be.off (Off.of_below ak.out Foot.none) (fun _ _ h=>h)) (g:=gv) (cap:=ca) (by rw[gA,<-al.out]) (i:=q) (by rw[gA,<-al.out];exact hqt) (dl v bz.out);rw[jA cx.out]at h9;exact h9);have bp:Hid (Off Sv w5 (wg.setCell ⟨gv,q,none⟩ (.int .i64 (to v)))):=h! ((ab.trans (Off.of_below ak.out _)).trans ((Off.set wg ⟨gv,q,none⟩ _).mono fun z _ hz=>by have h9:z=gv:=hz;rw[h9];exact cL));clear aj ah ae;go_wp2;clear bh bf;go_roundw
    case rel=>exact⟨q+1,hqt,by go_num,bv.out,bp.out⟩
    simp[intOf];omega
   obtain rfl:nv=q:=by omega
   have bv:Hid (kF wr S2 (.slice (some ⟨g1,0,none⟩) nc ci) (iU (mapX to) x.code (i+1))):=h! (by have h9:=be.out;rw[al.out,jN,<-al.out]at h9;have h8:=bd.out wr _ ab.out h9;have h7:=jA (g:=mapX to) HP.out;rw[<-h7];exact h8);have bp:Hid (Off S2 W2 wr):=h! (ch.trans (ab.mono fun z _ hz=>cj z hz));go_wp2;go_roundw
   case rel=>exact⟨i+1,hlt,by go_num,bv.out,bp.out⟩
   simp[intOf];omega
  obtain rfl:nc=i:=by omega
  have cw:Hid (kF wr S2 (.slice ai nc ci) (x.code.map (mapX to))):=h! (by have h9:=az.out;rw[bs.out,jN,<-bs.out]at h9;exact h9);have br:Hid (iS wr S1 (.slice ap np cp) (x.phis.map (mapP to))):=h! (dc.off OPhi.nice an.out dm.out);have bb:Hid (Off (S1.or S2) w wr):=h! ((cG.mono fun q _ h=>.inl h).trans (an.mono fun q _ h=>.inr h));have df:¬(S1.or S2) g:=fun h=>h.elim dj.out ds.out;have c2:=(bb.cell (b:=g) (o:=o+2) hgl df).trans dn.out;have c3:=(bb.cell (b:=g) (o:=o+3) hgl df).trans dt.out;have cq:g<wr.heap.size:=bD hgl bb.size;have bx:Hid (∀o,wr.frozen? ⟨g,o,none⟩=false):=h! (fun o=>(bb.frozen (b:=g) (o:=o) hgl df).trans (dv o));have cc:=h! c3;clear az hlt hi an dc cG;obtain⟨top,bq⟩:∃top,top=x.term.op:=⟨_,rfl⟩;rw[<-bq]at c2;have bk:=h! bq;clear bq;by_cases ho2:top=2
  ·have hq:(top == 2)=true:=by simpa using ho2
   have cb:Hid (x.term.op=2\/x.term.op=3):=h! (.inl (by rw[<-bk.out];exact ho2));clear ho2;have ao:=h! (co wr x.term.val cm.out (bb.mono fun q _ h=>h.elim (cd q) (cn q)));go_wp2_with (go_at_fn k;refine ao.mono ?_;rintro e w9 ⟨rfl,hb⟩;have bt:=h! hb;have dw:=(hb.cell (p:=⟨g,o+3,none⟩) cq).trans cc.out;have dr:∀o,w9.frozen? ⟨g,o,none⟩=false:=(fun o=>(hb.frozen (p:=⟨g,o,none⟩) cq).trans (bx o));clear hb);refine bodyPost_end (v:=.tuple #[]) (by simp[results,Tryz.results92,go_sem, *]) rfl ⟨w9,rfl,bb.trans (Off.of_below bt.out _),by rw[<-bi.out];exact br.off OPhi.nice (Off.of_below bt.out Foot.none) (fun _ _ h=>h),by rw[<-bs.out];exact cw.off OInstr.nice (Off.of_below bt.out Foot.none) (fun _ _ h=>h),.inl ⟨cb.out,rfl⟩⟩
  have hq:(top == 2)=false:=by simpa using ho2
  by_cases ho3:top=3
  ·have dq:(top == 3)=true:=by simpa using ho3
   have cb:Hid (x.term.op=2\/x.term.op=3):=h! (.inr (by rw[<-bk.out];exact ho3));clear ho2 ho3;have ao:=h! (co wr x.term.val cm.out (bb.mono fun q _ h=>h.elim (cd q) (cn q)));go_wp2_with (go_at_fn k;refine ao.mono ?_;rintro e w9 ⟨rfl,hb⟩;have bt:=h! hb;have dw:=(hb.cell (p:=⟨g,o+3,none⟩) cq).trans cc.out;have dr:∀o,w9.frozen? ⟨g,o,none⟩=false:=(fun o=>(hb.frozen (p:=⟨g,o,none⟩) cq).trans (bx o));clear hb);refine bodyPost_end (v:=.tuple #[]) (by simp[results,Tryz.results92,go_sem, *]) rfl ⟨w9,rfl,bb.trans (Off.of_below bt.out _),by rw[<-bi.out];exact br.off OPhi.nice (Off.of_below bt.out Foot.none) (fun _ _ h=>h),by rw[<-bs.out];exact cw.off OInstr.nice (Off.of_below bt.out Foot.none) (fun _ _ h=>h),.inl ⟨cb.out,rfl⟩⟩
  have dq:(top == 3)=false:=by simpa using ho3
  have cb:Hid (¬(x.term.op=2\/x.term.op=3)):=h! (by rw[<-bk.out];exact fun h=>h.elim ho2 ho3);clear ho2 ho3;go_wp2;refine bodyPost_end (v:=.tuple #[]) (by simp[results,Tryz.results92,go_sem, *]) rfl ⟨wr,rfl,bb.out,by rw[<-bi.out];exact br,by rw[<-bs.out];exact cw,.inr ⟨cb.out,rfl⟩⟩
def MapR(w:World)(S:Foot)(bv:Value)(xs:List BlockD)(to:Int->Int)(e:Ending)(w':World):Prop:=e=.returned (.tuple #[])/\Off S w w'/\fZ w' S bv (xs.map (mapB to))
theorem aGP{W W1 w9:World}{S S1 S2:Foot}{xs:List BlockD}{ab:Option Addr}{cb g i:Nat}{x:BlockD}{to:Int->Int}(hx:xs[i]? =some x)(hto:In64 (to x.term.val))(hg:ab=some ⟨g,0,none⟩)
  (h1:fZ W1 S (.slice ab xs.length cb) ((iU (mapB to) xs i).set i { x with phis:=x.phis.map (mapP to),code:=x.code.map (mapX to) }))
  (hc:((x.term.op=2\/x.term.op=3)/\w9=W1.setCell ⟨g,i*6+3,none⟩ (.int .i64 (to x.term.val)))\/(¬(x.term.op=2\/x.term.op=3)/\w9=W1)):
  fZ w9 S (.slice ab xs.length cb) (iU (mapB to) xs (i+1)):=by
 have aa:i<xs.length:=(aD.1 hx).1;rw[<-jA (g:=mapB to) hx];rcases hc with⟨ho,rfl⟩|⟨ho,rfl⟩
 ·have h2:=fZ.val h1 (j:=i) (x:={ x with phis:=x.phis.map (mapP to),code:=x.code.map (mapX to) }) (by rw[eO (by rw[gA];exact aa)]) (g:=g) (cap:=cb) (by rw[cQ,gA,hg]) hto;rw[List.set_set]at h2;have e:mapB to x={ x with phis:=x.phis.map (mapP to),code:=x.code.map (mapX to),term:={ x.term with val:=to x.term.val } }:=by rw[aFR];unfold mapT;rw[if_pos ho]
  rw[e];exact h2
 ·have e:mapB to x={ x with phis:=x.phis.map (mapP to),code:=x.code.map (mapX to) }:=by rw[aFR];unfold mapT;rw[if_neg ho]
  rw[e];exact h1
theorem mapC{w:World}{b cb:Nat}{ab:Option Addr}{xs:List BlockD}{S:Foot}{k:FuncId}{cap:Array Value}{to:Int->Int}(hc:w.cell? ⟨b,3,none⟩=some (.slice ab xs.length cb))(hbl:b<w.heap.size)(hbS:¬S b)
  (hO:fZ w S (.slice ab xs.length cb) xs) (eg:Enters Tryz.prog k) (hto:∀v,In64 v->In64 (to v)) (hstep:uY k cap to S w):
  Calls Tryz.prog 49 #[.pointer (some ⟨b,0,none⟩),.func (.func k) #[] cap] w (MapR w S (.slice ab xs.length cb) xs to):=by
 have HC:=h! hc;have HO:=h! hO;have ao:=h! hto;have ax:=h! hstep;have ay:=h! eg;have bb:xs.length<=17592186044416:=by obtain⟨cs,G,F,hp⟩:=hO;exact hp.row.big
 obtain⟨nb,ac⟩:∃nb,nb=xs.length:=⟨_,rfl⟩;rw[<-ac]at hc bb HC HO⊢;have ad:=h! ac;have az:=h! hbS;clear hO hto hstep eg ac hbS;go_enter Tryz.func49,Tryz.ntmps49;go_wp2_with fail;clear hc;go_loopw [10] (fun iv wr=>∃i:Nat,i<=nb/\iv=.int .i64 i/\fZ wr S (.slice ab nb cb) (iU (mapB to) xs i)/\Off S w wr) (fun iv _=>nb - (intOf iv).toNat)
 case atStart=>exact⟨0,aL _,rfl,by rw[iY];exact HO,Off.refl _ _⟩
 case round=>
  obtain⟨i,hi,rfl,aq,ho⟩:=hrel;have af:=h! ho;have ag:=h! aq;clear aq ho;by_cases hlt:i<nb
  ·obtain⟨x,hx⟩:∃x,xs[i]? =some x:=⟨_,aA (by rw[<-ad.out];exact hlt)⟩;obtain⟨g,cap',ap,ai,at_,cp,ci,ct,S1,S2,hv,ar,al,ah,ak,aw,am,d1,d2,an,n1,n2,aa⟩:=fZ.opened ag.out (j:=i) (x:=x) (by rw[jI];exact hx);rw[gA,<-ad.out]at hv;injection hv with e1 e2 e3;subst e1;subst e3;have HX:=h! hx;have ba:=h! aa;have be:=h! al;have bf:=h! d1;have bc:=h! d2;have ae:=ah.val64;have aj:=h! ae;have HCALL:=h! (aC6 ah ar ak aw am n1 n2 an d1 d2 ay.out ao.out (ax.off af.out));have c3:=(af.cell (b:=b) (o:=3) hbl az.out).trans HC.out;clear hx aa al d1 d2 ah ak aw am an n1 n2 e2 ar ae;go_wp2_with (refine HCALL.mono ?_;rintro e w9 ⟨W1,rfl,hoff,hps,hcs,hcase⟩;have HNX:Hid (fZ w9 S (.slice (some ⟨g,0,none⟩) nb cb) (iU (mapB to) xs (i+1))):=h! (by rw[ad.out];exact aGP (W:=wr) (S1:=S1) (S2:=S2) HX.out (ao _ aj.out) rfl (by rw[<-ad.out];exact ba W1 _ _ hoff hps hcs) hcase);have bd:Hid (Off S w w9):=h! (af.trans ((hoff.mono fun q _ h=>h.elim (bf q) (bc q)).trans (by rcases hcase with⟨_,rfl⟩|⟨_,rfl⟩;exact(Off.set W1 ⟨g,i*6+3,none⟩ _).mono fun z _ hz=>(by have h9:z=g:=hz;rw[h9];exact be);exact Off.refl _ _)));clear hoff hps hcs hcase c3);go_roundw
   case rel=>exact⟨i+1,hlt,by go_num,HNX.out,bd.out⟩
   simp[intOf];omega
  obtain rfl:nb=i:=by omega
  have HE:Hid (fZ wr S (.slice ab nb cb) (xs.map (mapB to))):=h! (by have h9:=ag.out;rw[ad.out,jN,<-ad.out]at h9;exact h9);clear ag;go_wp2;exact bodyPost_end (v:=.tuple #[]) (by simp[results,Tryz.results49,go_sem, *]) rfl ⟨rfl,af.out,HE.out⟩
end
section
open Go.RowKit
def iH(x:BlockD):List Int:=x.phis.map (·.id)++(x.code.filter fun y=>decide (0<=y.id)).map (·.id)
def iK(f:FuncD)(b:Nat):BlockD:=f.blocks.getD b default
def idsO(f:FuncD)(O:List Nat):List Int:=O.flatMap fun b=>iH (iK f b)
def jC(np:Nat)(ids:List Int):List (Int×Int):=ids.zipIdx.map fun p=>(p.1,((np+p.2:Nat):Int))
def parJ(np:Nat):List (Int×Int):=(List.range np).map fun i:Nat=>((i:Int),(i:Int))
def gH(np:Nat)(ids:List Int):List (Int×Int):=parJ np++jC np ids
def renV(np:Nat)(ids:List Int)(v:Int):Int:=(tyOf (gH np ids) v).getD 0
def renW(np:Nat)(ids:List Int)(v:Int):Int:=(tyOf (jC np ids) v).getD v
def plO(O:List Nat)(q:Int):Int:=((O.idxOf q.toNat:Nat):Int)
def renP(g:Int->Int)(O:List Nat)(p:PhiD):PhiD:=
 ⟨g p.id,p.typ,kH (p.src.map (plO O)),(kH (p.src.map (plO O))).map fun q=>(tyOf ((p.src.map (plO O)).zip (p.vals.map g)) q).getD 0⟩
def renX(g:Int->Int)(x:InstrD):InstrD:=⟨x.op,if 0<=x.id then g x.id else x.id,x.args.map g,x.n⟩
def renB(g:Int->Int)(O:List Nat)(x:BlockD):BlockD:=⟨x.phis.map (renP g O),x.code.map (renX g),{ mapT g x.term with to:=x.term.to.map (plO O) }⟩
def renF(f:FuncD)(O:List Nat):FuncD:={ f with blocks:=O.map fun b=>renB (renV f.params.length (idsO f O)) O (iK f b) }
def mN(O:List Nat)(p:PhiD):PhiD:=
 ⟨p.id,p.typ,((List.range O.length).filter fun b=>p.src.contains ((O.getD b 0:Nat):Int)).map fun b:Nat=>(b:Int),((List.range O.length).filter fun b=>p.src.contains ((O.getD b 0:Nat):Int)).map fun b:Nat=>p.vals.getD (p.src.idxOf ((O.getD b 0:Nat):Int)) 0⟩
theorem nD(A B:List (Int×Int))(v:Int):tyOf (A++B) v=(tyOf A v).or (tyOf B v):=by
 unfold tyOf;rw[List.find?_append]
 cases A.find? (fun p=>p.1 == v)<;>simp
theorem tW(np:Nat)(ids:List Int)(id:Int):jC np (ids++[id])=jC np ids++[(id,((np+ids.length:Nat):Int))]:=by unfold jC;rw[List.zipIdx_append,bG];simp
theorem nE(np:Nat)(ids:List Int):(jC np ids).map (·.1)=ids:=by
 unfold jC;rw[bN];apply bJ;intro i;rw[aM,dG]
 cases ids[i]? <;>simp
theorem vE(np:Nat)(ids:List Int):(jC np ids).length=ids.length:=by simp[jC]
theorem pG{np:Nat}{v:Int}:v∈(parJ np).map (·.1)↔0<=v/\v<np:=by
 unfold parJ;rw[bN,aN];constructor
 ·rintro⟨i,hi,rfl⟩;rw[bQ]at hi;simp only[Function.comp];omega
 rintro⟨h1,h2⟩;exact⟨v.toNat,bQ.2 (by omega),by simp only[Function.comp];omega⟩
theorem aGQ{np:Nat}{v:Int}(h:0<=v/\v<np):tyOf (parJ np) v=some v:=by
 cases hv:tyOf (parJ np) v with
 | none=>exact absurd (pG.2 h) (iA.1 hv)
 | some t=>
  have h1:=nJ hv
  unfold parJ at h1
  rw[aN]at h1
  obtain⟨i,_,h2⟩:=h1
  have h3:=congrArg Prod.fst h2
  have h4:=congrArg Prod.snd h2
  simp only at h3 h4
  rw[<-h3,<-h4]
theorem vF(np:Nat)(ids:List Int):(gH np ids).length=np+ids.length:=by unfold gH;rw[aO,vE];simp[parJ]
theorem aAW(np:Nat)(ids:List Int)(id:Int):gH np (ids++[id])=gH np ids++[(id,(((gH np ids).length:Nat):Int))]:=by rw[vF];unfold gH;rw[tW,cD]
theorem aAX{np:Nat}{ids:List Int}{v:Int}(h1:¬(0<=v/\v<np))(h2:v∉ids):tyOf (gH np ids) v=none:=by unfold gH;rw[nD,iA.2 (fun h=>h1 (pG.1 h)),iA.2 (by rw[nE];exact h2)];rfl
structure Named(np:Nat)(ids:List Int):Prop where
 nodup:ids.Nodup
 out:∀v∈ids,(np:Int)<=v
theorem tX{np:Nat}{ids:List Int}(hn:ids.Nodup){k:Nat}{v:Int}(h:ids[k]? =some v):tyOf (jC np ids) v=some ((np+k:Nat):Int):=by
 cases hv:tyOf (jC np ids) v with
 | none=>exact absurd (by rw[nE];exact aG h) (iA.1 hv)
 | some t=>
  have h1:=nJ hv
  unfold jC at h1
  rw[aN]at h1
  obtain⟨⟨u,j⟩,h2,h3⟩:=h1
  rw[bA]at h2
  simp only at h2 h3
  have h4:=congrArg Prod.fst h3
  have h5:=congrArg Prod.snd h3
  simp only at h4 h5
  subst h4
  obtain⟨h6,h7⟩:=aD.1 h
  obtain⟨h8,h9⟩:=aD.1 h2
  have:j=k:=(dP hn).1 (by rw[h9,h7])
  rw[<-h5,this]
theorem mO{np:Nat}{ids:List Int}(h:Named np ids){k:Nat}{v:Int}(hk:ids[k]? =some v):renV np ids v=((np+k:Nat):Int)/\renW np ids v=((np+k:Nat):Int):=by
 have h1:=tX (np:=np) h.nodup hk;have h2:=h.out v (aG hk);constructor
 ·unfold renV gH;rw[nD,iA.2 (fun h=>by have:=pG.1 h;omega),h1];rfl
 unfold renW;rw[h1];rfl
theorem mF{np:Nat}{ids:List Int}(h:Named np ids){v:Int}(hv:0<=v/\v<np):renV np ids v=v/\renW np ids v=v:=by
 constructor
 ·unfold renV gH;rw[nD,aGQ hv];rfl
 unfold renW;rw[iA.2 (by rw[nE];intro hm;have:=h.out v hm;omega)];rfl
theorem sX{np:Nat}{pre post:List Int}{id:Int}(h:Named np (pre++id :: post)):tyOf (gH np pre) id=none/\gH np (pre++[id])=gH np pre++[(id,(((gH np pre).length:Nat):Int))]/\renV np (pre++id :: post) id=(((gH np pre).length:Nat):Int):=by have h1:=h.out id (by simp);have h2:=h.nodup;rw[cN]at h2;refine⟨aAX (by omega) (fun hm=>h2.2.2 id hm id (by simp) rfl),aAW np pre id, ?_⟩;rw[vF];exact(mO h (k:=pre.length) (by rw[cU (aC _),eG];rfl)).1
theorem rF{O:List Nat}{g:Int->Int}{p:PhiD}(hO:O.Nodup)(hn:p.src.Nodup)(hm:∀q∈p.src,0<=q/\q.toNat∈O)(hl:p.src.length=p.vals.length):
  kH (p.src.map (plO O))=(mN O (mapP g p)).src/\((kH (p.src.map (plO O))).map fun q=>(tyOf ((p.src.map (plO O)).zip (p.vals.map g)) q).getD 0)=(mN O (mapP g p)).vals:=by
 have ab:∀q∈p.src,∀r∈p.src,plO O q=plO O r->q=r:=fun q hq r hr e=>by
  have h1:=aX (hm q hq).2;have h2:=aX (hm r hr).2;unfold plO at e;have h3:O.idxOf q.toNat=O.idxOf r.toNat:=by omega
  have h4:O[O.idxOf q.toNat]=O[O.idxOf r.toNat]:=by simp only[h3]
  rw[cA,cA]at h4;have:=(hm q hq).1;have:=(hm r hr).1;omega
 have ac:(p.src.map (plO O)).Nodup:=by rw[bX,dR];rw[bX]at hn;exact(List.Pairwise.and_mem.1 hn).imp fun⟨ha,hb,hne⟩ e=>hne (ab _ ha _ hb e)
 have aa:kH (p.src.map (plO O))=(mN O (mapP g p)).src:=by
  refine qU (oL ac) ?_ fun x=> ?_
  ·unfold Rise mN;simp only;rw[dR];exact(List.Pairwise.filter _ List.pairwise_lt_range).imp fun h=>by omega
  rw[(gM _).mem_iff,aN];unfold mN mapP;simp only[aN,dU,bQ,dN];constructor
  ·rintro⟨q,hq,rfl⟩;have h1:=aX (hm q hq).2;refine⟨O.idxOf q.toNat,⟨h1, ?_⟩,rfl⟩;rw[aH,aA h1,dI,cA];have:=(hm q hq).1;rw[fH this];exact hq
  rintro⟨b,⟨hb,ai⟩,rfl⟩;refine⟨_,ai, ?_⟩;rw[aH,aA hb,dI];unfold plO;rw[bW,List.Nodup.idxOf_getElem hO]
 refine⟨aa, ?_⟩;have hv:(mN O (mapP g p)).vals=(mN O (mapP g p)).src.map fun q=>(p.vals.map g).getD (p.src.idxOf ((O.getD q.toNat 0:Nat):Int)) 0:=by unfold mN mapP;simp only[bN];apply bT;intro b _;simp
 rw[hv,aa];apply bT;intro x hx;rw[<-aa,(gM _).mem_iff,aN]at hx;obtain⟨q,hq,rfl⟩:=hx;have h1:=aX (hm q hq).2;have h2:((O.getD (plO O q).toNat 0:Nat):Int)=q:=by unfold plO;rw[bW,aH,aA h1,dI,cA];exact fH (hm q hq).1
 rw[h2];obtain⟨i,hi⟩:∃i,i=p.src.idxOf q:=⟨_,rfl⟩;rw[<-hi];have ae:i<p.src.length:=by rw[hi];exact aX hq
 have ad:p.src[i]? =some q:=by rw[aA ae];subst hi;rw[cA]
 have ah:(p.vals.map g)[i]? =some ((p.vals.map g).getD i 0):=by rw[aH,aA (by rw[aZ];omega)];rfl
 have hz:((p.src.map (plO O)).zip (p.vals.map g))[i]? =some (plO O q,(p.vals.map g).getD i 0):=by rw[cP];exact⟨by rw[aM,ad];rfl,ah⟩
 have af:(((p.src.map (plO O)).zip (p.vals.map g)).map Prod.fst).Nodup:=by rw[List.map_fst_zip (by rw[aZ,aZ];omega)];exact ac
 cases ht:tyOf ((p.src.map (plO O)).zip (p.vals.map g)) (plO O q)with
 | none=>
  exfalso
  exact iA.1 ht (aN.2 ⟨_,aG hz,rfl⟩)
 | some t=>
  have h3:=nJ ht
  obtain⟨j,hj⟩:=bP h3
  have h4:(((p.src.map (plO O)).zip (p.vals.map g)).map Prod.fst)[j]? =some (plO O q):=by rw[aM,hj];rfl
  have h5:(((p.src.map (plO O)).zip (p.vals.map g)).map Prod.fst)[i]? =some (plO O q):=by rw[aM,hz];rfl
  obtain⟨h6,h7⟩:=aD.1 h4
  obtain⟨h8,h9⟩:=aD.1 h5
  have ag:j=i:=(dP af).1 (by rw[h7,h9])
  rw[ag,hz]at hj
  injection hj with hj
  have:=congrArg Prod.snd hj
  simp only at this
  rw[<-this];rfl
theorem aI8{f:FuncD}{d:Nat}{x:BlockD}(hf:gX f=true)(hx:f.blocks[d]? =some x){p:PhiD}(hp:p∈x.phis):∀q∈p.src,0<=q/\q<f.blocks.length:=fun q hq=>by unfold gX at hf;simp only[aK,aY]at hf;have h8:=(iN.1 (hf.2 (x,d) (by rw[bA];exact hx))).2.1 p hp;unfold jR at h8;simp only[aK,aY]at h8;have h9:=h8.1.2 q hq;unfold numB at h9;simp at h9;omega
theorem sY{W:World}{g n:Nat}(h:W.heap[g]? =some (.cells (List.replicate n (Value.int .i64 0)).toArray 3 (0,0)))(hn:n<=100000):fP W (Foot.one g) (.slice (some ⟨g,0,none⟩) n n) (List.replicate n 0):=by have aa:=(aQ.1 h).1;refine⟨⟨by simp,by simp;omega,fun k hk=>by cases hk;exact aa,.inr ⟨g,n,_,by simp,rfl,h,by simp,by unfold maxLen;omega,by simp,by simp⟩⟩,fun x hx=> ?_⟩;rw[cY hx];exact⟨by omega,by omega⟩
def OffF(D:Foot)(w0 W:World):Prop:=Off D w0 W
theorem OffF.later{D:Foot}{w0 W W':World}(h:OffF D w0 W)(hb:Below W.heap.size W W'):OffF D w0 W':=Off.trans h (Off.of_below hb D)
theorem OffF.alloc{D:Foot}{w0 W:World}(h:OffF D w0 W)(o:Obj):OffF D w0 (W.alloc o):=Off.trans h (Off.alloc D W o)
theorem OffF.other{D:Foot}{w0 W:World}(h:OffF D w0 W){p:Addr}(v:Value)(hp:D p.block\/w0.heap.size<=p.block):OffF D w0 (W.setCell p v):=
 Off.grow h (Off.set W p v) (fun q hq=>by cases hq;exact hp)
theorem gK{f:FuncD}{b:Nat}{x:BlockD}(h:f.blocks[b]? =some x):iK f b=x:=getD_some h
theorem yS{f:FuncD}(hc:fO f=0){x:BlockD}(hx:x∈f.blocks):iH x=(iT x).map (·.1):=by
 unfold iH iT;rw[bG,bN,bN];have h1:x.code.filter (fun y=>decide (0<=y.id))=x.code.filter (fun y=>(shp0 y.op).result != 0):=by apply List.filter_congr;intro y hy;have:=pT hc x hx y hy;rw[cH];simp only[decide_eq_true_eq,bne_iff_ne];exact this
 rw[h1];rfl
theorem aDL{f:FuncD}(hc:fO f=0):f.blocks.flatMap iH=(mX f).map (·.1):=by
 unfold mX;rw[eK];have:∀l:List BlockD,(∀x∈l,x∈f.blocks)->l.flatMap iH=l.flatMap fun x=>(iT x).map (·.1):=fun l=>by
  induction l with
  | nil=>intro _;rfl
  | cons x l ih=>intro h;rw[cK,cK,yS hc (h x (by simp)),ih fun y hy=>h y (bL _ hy)]
 exact this _ fun x hx=>hx
theorem mU{f:FuncD}{O:List Nat}(hO:fQ f O)(hall:∀d,d<f.blocks.length->Way (toB f) (-1) d):O.Perm (List.range f.blocks.length):=by obtain⟨h1,h2,h3,-,-⟩:=hO.facts;rw[List.perm_ext_iff_of_nodup h1 List.nodup_range];intro a;rw[bQ];exact⟨h3 a,fun h=>(h2 a).2 (hall a h)⟩
theorem vG(f:FuncD):(List.range f.blocks.length).flatMap (fun b=>iH (iK f b))=f.blocks.flatMap iH:=by
 have h:(List.range f.blocks.length).map (iK f)=f.blocks:=by
  apply bJ;intro i;rw[aM];by_cases hi:i<f.blocks.length
  ·rw[dK hi,aA hi,dB,gK (aA hi)]
  rw[aS (by rw[dL];omega),aS (by omega)];rfl
 have h2:f.blocks.flatMap iH=((List.range f.blocks.length).map (iK f)).flatMap iH:=by rw[h]
 rw[h2,fC]
theorem qN{f:FuncD}{O:List Nat}(hc:fO f=0)(hO:fQ f O)(hall:∀d,d<f.blocks.length->Way (toB f) (-1) d):(idsO f O).Perm ((mX f).map (·.1)):=by rw[<-aDL hc,<-vG];exact(mU hO hall).flatMap_right _
theorem jY{f:FuncD}{O:List Nat}(hc:fO f=0)(hO:fQ f O)(hall:∀d,d<f.blocks.length->Way (toB f) (-1) d):Named f.params.length (idsO f O):=by
 have h2:=(fT hc).2;have hp:=qN hc hO hall;refine⟨?_,fun v hv=> ?_⟩
 ·rw[hp.nodup_iff];have h3:=oK h2;rw[bG,cN]at h3;exact h3.2.1
 rw[hp.mem_iff,aN]at hv;obtain⟨p,aa,rfl⟩:=hv;unfold idsF idsB at h2;rw[aK,aY]at h2;have h4:=h2.2 p aa;simp at h4;omega
theorem tY(ps:List Int){v:Int}(h:v∈(parT ps).map (·.1)):0<=v/\v<ps.length:=by unfold parT at h;rw[bN,aN]at h;obtain⟨⟨t,i⟩,hi,rfl⟩:=h;rw[bA]at hi;have:=(aD.1 hi).1;simp only[Function.comp];simp only at this;omega
theorem aDM{f:FuncD}{O:List Nat}(hc:fO f=0)(hO:fQ f O)(hall:∀d,d<f.blocks.length->Way (toB f) (-1) d){u:Int×Int}(hu:u∈lJ f):(0<=u.1/\u.1<f.params.length)\/u.1∈idsO f O:=by
 unfold lJ at hu;rw[bC]at hu;obtain⟨x,hx,hu⟩:=hu;have h1:=(jQ.1 hc).2.2.2.2 x hx u hu;have h2:u.1∈(fX f).map (·.1):=by refine Classical.byContradiction fun h=> ?_;rw[iA.2 h]at h1;exact absurd h1.1 (by simp)
 unfold fX at h2;rw[bG,aJ]at h2;rcases h2 with h2|h2
 ·exact .inl (tY _ h2)
 exact .inr ((qN hc hO hall).mem_iff.2 h2)
theorem aGR{f:FuncD}{x:BlockD}(hx:x∈f.blocks){u:Int×Int}(hu:u∈lI x):u∈lJ f:=by unfold lJ;rw[bC];exact⟨x,hx,hu⟩
theorem aAY{f:FuncD}(hf:gX f=true){x:BlockD}(hx:x∈f.blocks){g g':Int->Int}(h:∀u∈lI x,g u.1=g' u.1):
  (∀p∈x.phis,p.vals.map g=p.vals.map g')/\(∀y∈x.code,y.args.map g=y.args.map g')/\mapT g x.term=mapT g' x.term:=by
 have he:=kY hf;refine⟨fun p hp=>bT fun v hv=> ?_,fun y hy=>bT fun v hv=> ?_, ?_⟩
 ·refine h (v,p.typ) ?_;unfold lI;rw[aJ,aJ,bC];refine .inl (.inl ⟨p,hp, ?_⟩);unfold pQ;exact aN.2 ⟨v,hv,rfl⟩
 ·obtain⟨i,hi⟩:=bP hv;have hl:=he.args x hx y hy;have hil:=(aD.1 hi).1;refine h (v,(shp0 y.op).args[i]'(by omega)) ?_;unfold lI;rw[aJ,aJ,bC,bC];refine .inl (.inr ⟨y,hy, ?_⟩);unfold sF;refine aG (i:=i) ?_;rw[cP];exact⟨hi,aA (by omega)⟩
 ·unfold mapT;by_cases ht:x.term.op=2\/x.term.op=3
  ·rw[if_pos ht,if_pos ht];obtain⟨t,hu⟩:∃t,(x.term.val,t)∈lI x:=by
    rcases ht with ht|ht
    ·refine⟨2, ?_⟩;unfold lI pA;rw[if_pos ht];simp
    refine⟨0, ?_⟩;unfold lI pA;rw[if_neg (by omega),if_pos ht];simp
   rw[show g x.term.val=g' x.term.val from h _ hu]
  rw[if_neg ht,if_neg ht]
theorem rG{f:FuncD}{d:Nat}{x:BlockD}(hf:gX f=true)(hx:f.blocks[d]? =some x){p:PhiD}(hp:p∈x.phis):p.src.Nodup/\p.src.length=p.vals.length/\∀q∈p.src,0<=q/\q<f.blocks.length:=by refine⟨?_,((kY hf).phi x (aG hx) p hp).1,aI8 hf hx hp⟩;unfold gX at hf;simp only[aK,aY]at hf;have h8:=(iN.1 (hf.2 (x,d) (by rw[bA];exact hx))).2.1 p hp;unfold jR at h8;simp only[aK,decide_eq_true_eq]at h8;exact h8.2
theorem vH{f:FuncD}{O Q:List Nat}(h:fQ f O)(k:fQ f Q):O=Q:=by obtain⟨s,h⟩:=h;obtain⟨t,k⟩:=k;have:=(h.det k).2;rw[<-List.reverse_reverse O,this,List.reverse_reverse]
def RenP(f g:FuncD)(k:Int):Prop:=∃s,SErr f s/\((s≠0/\g=aHK/\k=s)\/(s=0/\k=0/\∃O,fQ f O/\g=renF f O))
theorem RenP.one{f g g':FuncD}{k k':Int}(h:RenP f g k)(h':RenP f g' k'):g=g'/\k=k':=by
 obtain⟨s,h1,h2⟩:=h;obtain⟨s',h3,h4⟩:=h';obtain rfl:=h1.one h3;rcases h2 with⟨n,rfl,rfl⟩|⟨rfl,rfl,O,hO,rfl⟩
 ·rcases h4 with⟨_,rfl,rfl⟩|⟨n2,_⟩
  ·exact⟨rfl,rfl⟩
  exact absurd n2 n
 rcases h4 with⟨n2,_⟩|⟨_,rfl,Q,hQ,rfl⟩
 ·exact absurd rfl n2
 rw[vH hO hQ];exact⟨rfl,rfl⟩
theorem iC{f:FuncD}(h:gE f 0 0):∀d,d<f.blocks.length->Way (toB f) (-1) d:=(qP.1 h).1
def idB(g:Int->Int)(O:List Nat)(x:BlockD):BlockD:=⟨x.phis.map fun p=>{ p with id:=g p.id },x.code.map fun y=>{ y with id:=if 0<=y.id then g y.id else y.id },{ x.term with to:=x.term.to.map (plO O) }⟩
def aAZ(O:List Nat)(p:PhiD):PhiD:={ p with src:=kH (p.src.map (plO O)),vals:=(kH (p.src.map (plO O))).map fun q=>(tyOf ((p.src.map (plO O)).zip p.vals) q).getD 0 }
def xF(O:List Nat)(x:BlockD):BlockD:={ x with phis:=x.phis.map (aAZ O) }
theorem aDN(g:Int->Int)(O:List Nat)(x:BlockD):xF O (mapB g (idB g O x))=renB g O x:=by
 unfold xF mapB idB renB;simp only[bN,BlockD.mk.injEq];refine⟨?_, ?_, ?_⟩
 ·apply bT;intro p _;rfl
 ·apply bT;intro y _;rfl
 unfold mapT;simp only;split<;>rfl
def RenR(f:FuncD)(w:World)(e:Ending)(w':World):Prop:=∃(g:FuncD) (k:Int) (v:Value) (S:Foot),RenP f g k/\e=.returned (.tuple #[v,.int .i64 k])/\OFunc w' S v g/\nH w.heap.size S/\Below w.heap.size w w'
def vI(f g:FuncD)(r:Bool):Prop:=∃(a b:FuncD) (k h:Int),RenP f a k/\RenP g b h/\r=(((k == 0)&&(h == 0))&&decide (a=b))
set_option maxHeartbeats 3200000 in
theorem aDO(hren:∀(W:World) (v:Value) (f:FuncD),gS W v f->Calls Tryz.prog 11 #[v] W (RenR f W)){w:World}{v v':Value}{f g:FuncD}(hf:gS w v f)(hg:gS w v' g):
  Calls Tryz.prog 15 #[v,v'] w fun e w'=>∃r,e=.returned (.bool r)/\vI f g r/\Below w.heap.size w w':=by
 have HF:=h! hf;have HG:=h! hg;have bg:=h! hren;obtain⟨ap,cp,ab,cb,rfl,-,-,-,-⟩:=hf.form;obtain⟨ba,bb,be,az,rfl,-,-,-,-⟩:=hg.form;clear hf hg hren;go_enter Tryz.func15,Tryz.ntmps15;go_upto_region 1 with(fail);have aa:=(Below.refl w.heap.size w).alloc (aC _) (.cells #[.slice ap f.params.length cp,.int .i64 f.arrays,.int .i64 f.cells,.slice ab f.blocks.length cb] 25);have HW:=h! aa;clear aa;have B1:=h! (Box.new w #[.slice ap f.params.length cp,.int .i64 f.arrays,.int .i64 f.cells,.slice ab f.blocks.length cb] 25);have ar:(w.alloc (.cells #[.slice ap f.params.length cp,.int .i64 f.arrays,.int .i64 f.cells,.slice ab f.blocks.length cb] 25)).heap.size=w.heap.size+1:=World.size_alloc _ _;generalize w.alloc (.cells #[.slice ap f.params.length cp,.int .i64 f.arrays,.int .i64 f.cells,.slice ab f.blocks.length cb] 25)=aw at*;have aa:=(Below.refl aw.heap.size aw).alloc (aC _) (.cells #[.slice ba g.params.length bb,.int .i64 g.arrays,.int .i64 g.cells,.slice be g.blocks.length az] 25);replace B1:=h! (B1.later aa);replace HW:=w! HW aa;clear aa;have B2:=h! (Box.new aw #[.slice ba g.params.length bb,.int .i64 g.arrays,.int .i64 g.cells,.slice be g.blocks.length az] 25);rw[ar]at B2;clear ar;generalize aw.alloc (.cells #[.slice ba g.params.length bb,.int .i64 g.arrays,.int .i64 g.cells,.slice be g.blocks.length az] 25)=wv at*;obtain⟨ad,ae,ah⟩:=B1.out;obtain⟨ac,ag,af⟩:=B2.out;go_wp2_with fail;refine(bg _ _ _ (HF.below HW.out)).mono ?_;rintro e w1 ⟨a,k,v1,S1,bh,rfl,bd,bk,hb⟩;obtain⟨ax,cx,bx,dx,rfl,-,-,-,-⟩:=bd.reads.form;have bo:=h! bh;have HA:=h! (kM bd bk);clear bh bd bk;clear ad ae ah ac ag af;replace B1:=h! (B1.later hb);replace B2:=h! (B2.later hb);replace HW:=w! HW hb;clear hb;obtain⟨ad,ae,ah⟩:=B1.out;obtain⟨ac,ag,af⟩:=B2.out;go_upto_region 2 with(fail);replace HA:=h! (HA.more (aC _));have aq:w1.heap.size≠w.heap.size:=fun e=>by have:=ad;omega
 have nB1B3:w.heap.size≠w1.heap.size:=fun e=>aq e.symm;have ao:w1.heap.size≠w.heap.size+1:=fun e=>by have:=ac;omega
 have nB2B3:w.heap.size+1≠w1.heap.size:=fun e=>ao e.symm;clear ad ae ah ac ag af;have aa:=(Below.refl w1.heap.size w1).alloc (aC _) (.cells #[.slice ax a.params.length cx,.int .i64 a.arrays,.int .i64 a.cells,.slice bx a.blocks.length dx] 25);replace B1:=h! (B1.later aa);replace B2:=h! (B2.later aa);replace HA:=h! (HA.later aa);replace HW:=w! HW aa;clear aa;have B3:=h! (Box.new w1 #[.slice ax a.params.length cx,.int .i64 a.arrays,.int .i64 a.cells,.slice bx a.blocks.length dx] 25);generalize w1.alloc (.cells #[.slice ax a.params.length cx,.int .i64 a.arrays,.int .i64 a.cells,.slice bx a.blocks.length dx] 25)=w2 at*;obtain⟨ad,ae,ah⟩:=B1.out;obtain⟨ac,ag,af⟩:=B2.out;obtain⟨ai,ak,aj⟩:=B3.out;go_wp2_with fail;refine(bg _ _ _ (HG.below HW.out)).mono ?_;rintro e w3 ⟨b,h,v2,S2,bj,rfl,bc,bi,hb⟩;obtain⟨ay,cy,dy,ey,rfl,-,-,-,-⟩:=bc.reads.form;have HP:Hid (RenP f a k/\RenP g b h):=h! ⟨bo.out,bj⟩;have HB:=h! (kM bc bi);clear bj bc bi;clear ad ae ah ac ag af ai ak aj;replace B1:=h! (B1.later hb);replace B2:=h! (B2.later hb);replace B3:=h! (B3.later hb);replace HA:=h! (HA.later hb);replace HW:=w! HW hb;clear hb;obtain⟨ad,ae,ah⟩:=B1.out;obtain⟨ac,ag,af⟩:=B2.out;obtain⟨ai,ak,aj⟩:=B3.out;go_upto_region 3 with(fail);replace HA:=h! (HA.more (aC _));replace HB:=h! (HB.more (aC _));have am:w3.heap.size≠w.heap.size:=fun e=>by have:=ad;omega
 have nB1B4:w.heap.size≠w3.heap.size:=fun e=>am e.symm;have an:w3.heap.size≠w.heap.size+1:=fun e=>by have:=ac;omega
 have nB2B4:w.heap.size+1≠w3.heap.size:=fun e=>an e.symm;have al:w3.heap.size≠w1.heap.size:=fun e=>by have:=ai;omega
 have nB3B4:w1.heap.size≠w3.heap.size:=fun e=>al e.symm;clear ad ae ah ac ag af ai ak aj;have aa:=(Below.refl w3.heap.size w3).alloc (aC _) (.cells #[.slice ay b.params.length cy,.int .i64 b.arrays,.int .i64 b.cells,.slice dy b.blocks.length ey] 25);replace B1:=h! (B1.later aa);replace B2:=h! (B2.later aa);replace B3:=h! (B3.later aa);replace HA:=h! (HA.later aa);replace HB:=h! (HB.later aa);replace HW:=w! HW aa;clear aa;have B4:=h! (Box.new w3 #[.slice ay b.params.length cy,.int .i64 b.arrays,.int .i64 b.cells,.slice dy b.blocks.length ey] 25);generalize w3.alloc (.cells #[.slice ay b.params.length cy,.int .i64 b.arrays,.int .i64 b.cells,.slice dy b.blocks.length ey] 25)=w4 at*;obtain⟨ad,ae,ah⟩:=B1.out;obtain⟨ac,ag,af⟩:=B2.out;obtain⟨ai,ak,aj⟩:=B3.out;obtain⟨bm,bl,bn⟩:=B4.out;obtain⟨r,hr⟩:∃r,r=decide (a=b):=⟨_,rfl⟩;have bf:=h! hr;clear hr
 cases hk:(k == 0)
 ·have HR:Hid (false=(((k == 0)&&(h == 0))&&decide (a=b))):=h! (by rw[hk];rfl);go_wp2;go_ret;exact⟨_,rfl,⟨a,b,k,h,HP.1,HP.2,HR.out⟩,HW.out⟩
 cases hh:(h == 0)
 ·have HR:Hid (false=(((k == 0)&&(h == 0))&&decide (a=b))):=h! (by rw[hk,hh];rfl);go_wp2;go_ret;exact⟨_,rfl,⟨a,b,k,h,HP.1,HP.2,HR.out⟩,HW.out⟩
 have HR:Hid (r=(((k == 0)&&(h == 0))&&decide (a=b))):=h! (by rw[hk,hh,bf.out];rfl);go_wp2_with fail;refine(editSame HA.now.reads HB.now.reads).mono ?_;rintro e w5 ⟨rfl,hb⟩;rw[<-bf.out];clear ad ae ah ac ag af ai ak aj bm bl bn;replace B1:=h! (B1.later hb);replace B2:=h! (B2.later hb);replace B3:=h! (B3.later hb);replace B4:=h! (B4.later hb);replace HA:=h! (HA.later hb);replace HB:=h! (HB.later hb);replace HW:=w! HW hb;clear hb;obtain⟨ad,ae,ah⟩:=B1.out;obtain⟨ac,ag,af⟩:=B2.out;obtain⟨ai,ak,aj⟩:=B3.out;obtain⟨bm,bl,bn⟩:=B4.out;go_wp2;go_ret;exact⟨_,rfl,⟨a,b,k,h,HP.1,HP.2,HR.out⟩,HW.out⟩
end
end Go.Proofs.YtagabiidbbhhmaaGreat
