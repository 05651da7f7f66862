/- Part 56. -/
import Derived.Test.YtagabiidbbhhmaaGreatET55
namespace Go.Proofs.YtagabiidbbhhmaaGreat
set_option linter.all false
set_option maxRecDepth 100000
open Go.RowKit
def qJ(w0 W:World):Prop:=Below w0.heap.size w0 W
theorem qJ.later{w0 W W':World}(h:qJ w0 W)(hb:Below W.heap.size W W'):qJ w0 W':=Below.trans h (hb.mono (Below.size h))
theorem qJ.alloc{w0 W:World}(h:qJ w0 W)(o:Obj):qJ w0 (W.alloc o):=h.later ((Below.refl _ _).alloc (aC _) o)
theorem MachP.alloc{base bs fuel:Nat}{W:World}{bm:Nat}{s:RunS}{o:OverD}{ov av vv cv:Value}{mv:Nat}{m:List (Int×Value)}{F:Nat->Foot}(h:MachP base bs fuel W bm s o ov av vv cv mv m F)(ob:Obj):MachP base bs fuel (W.alloc ob) bm s o ov av vv cv mv m F:=h.later ((Below.refl _ _).alloc (aC _) ob)
theorem Mach.addr{base bs fuel:Nat}{W:World}{bm:Nat}{s:RunS}{o:OverD}{ov av vv cv:Value}{mv:Nat}{m:List (Int×Value)}{F:Nat->Foot}(h:MachP base bs fuel W bm s o ov av vv cv mv m F){nn:Nat}{a:List Int}(hn:s.arrays[nn]? =some a){j:Nat}(hj:j<a.length):∃g,MAt W bm nn g:=by obtain⟨ga,ab,c,ad,rfl,hgal,hSga,aa,hints,ac⟩:=h.arr.open hn;obtain⟨g,rfl,-⟩:=ac j _ (aA hj);exact⟨g,ga,_,ab,_,c,h.box.at 4 rfl,aa⟩
theorem MachP.outs{base bs fuel:Nat}{W W1:World}{bm:Nat}{s:RunS}{ov av vv cv u:Value}{mv:Nat}{m:List (Int×Value)}{F:Nat->Foot}{G:Foot}{xs:List Int}(h:MachP base bs fuel W bm s ⟨0,0,0⟩ ov av vv cv mv m F)(ho:Off (F 1) W W1)(hG:∀k,G k->F 1 k\/W.heap.size<=k)(hB:base<=W.heap.size)
  (hu:fP W1 G u xs):MachP base bs fuel (W1.setCell ⟨bm,3,none⟩ u) bm { s with out:=xs } ⟨0,0,0⟩ u av vv cv mv m (newF F 1 G):=by
 have ac:∀j,j≠1->(F j).off (F 1):=fun j hj=>h.apart j 1 hj;have ad:=qB (i:=1) (G:=G) h.apart (fun _ _ hk=>h.lt hk) hG;have aa:=Off.set W1 ⟨bm,3,none⟩ u;have ae:newF F 1 G 0 bm:=by rw[iV F 1 G (by omega)];exact(h.b0 bm).2 rfl
 have hq:∀j,j≠0->(newF F 1 G j).off (Foot.one bm):=fun j hj k hk e=>ad j 0 hj k hk (by cases e;exact ae);have ab:∀j,j≠0->j≠1->(F j).off (Foot.one bm):=fun j hj hj1=>by have h9:=hq j hj;rwa[iV F 1 G hj1]at h9
 have af:=(h.box.off ho (fun e=>h.apart 0 1 (by omega) _ ((h.b0 _).2 rfl) e)).set 3 u;refine⟨af,by rw[iV F 1 G (by omega)];exact h.b0, ?_, ?_, ?_, ?_, ?_,h.val, ?_,h.v64,ad, ?_, ?_⟩
 ·have h9:=hq 1 (by omega);rw[oY]at h9⊢;exact hu.off aa h9
 ·rw[iV F 1 G (by omega)];exact(h.arr.off OLis.nice ho (ac 2 (by omega))).off OLis.nice aa (ab 2 (by omega) (by omega))
 ·rw[iV F 1 G (by omega)];exact(h.vis.off ho (ac 3 (by omega))).off aa (ab 3 (by omega) (by omega))
 ·have h9:=h.mp.keep (ho.block _ h.mp.lt (fun hk=>h.apart 4 1 (by omega) _ ((h.m4 _).2 rfl) hk));exact h9.keep (aa.block _ h9.lt (ab 4 (by omega) (by omega) _ ((h.m4 _).2 rfl)))
 ·rw[iV F 1 G (by omega)];exact h.m4
 ·rw[iV F 1 G (by omega)];exact(h.cel.off ho (ac 5 (by omega))).off aa (ab 5 (by omega) (by omega))
 ·intro j k hk;unfold newF at hk;by_cases e:j=1
  ·omega
  rw[if_neg e]at hk;exact h.six j k hk
 ·intro j k hk;unfold newF at hk;by_cases e:j=1
  ·rw[if_pos e]at hk;rcases hG k hk with h9|h9
   ·exact h.base 1 k h9
   omega
  rw[if_neg e]at hk;exact h.base j k hk
theorem yW{F:Nat->Foot}{i:Nat}{G:Foot}{n:Nat}(hG:∀k,G k->F i k\/n<=k):∀j k,newF F i G j k->F j k\/n<=k:=fun j k hk=>by
 unfold newF at hk;by_cases e:j=i
 ·rw[if_pos e]at hk;rw[e];exact hG k hk
 rw[if_neg e]at hk;exact .inl hk
set_option maxHeartbeats 25600000 in
theorem aLV{base bs fuel bm:Nat}{w:World}{D:Foot}{s:RunS}{ar ce:Int}{v:Value}{x:InstrD}(hM:Mach base bs fuel w bm D s)(hB:base<=w.heap.size)(hR:RunOk ar ce s)(hx:InsOk ar ce x)(hv:qS w v x):
  Calls Tryz.prog 147 #[.pointer (some ⟨bm,0,none⟩),v] w (ResR base bs fuel w bm D intV (gG x s)):=by
 obtain⟨u,rfl,ha⟩:=hv;obtain⟨aa,ca,rfl⟩:=ha.form;obtain⟨ov,av,vv,cv,mv,m,F,hP,hD⟩:=hM;obtain⟨op,id,args,n⟩:=x;simp only at ha⊢;obtain⟨al,cq⟩:∃al,al=args.length:=⟨_,rfl⟩;rw[<-cq];obtain⟨a2,c2,ab,ao,eh,-,-,dc,ba⟩:=ha.parts;rw[<-cq]at eh dc ba
 cases eh;have HP:=h! hP;have HD:=h! hD;have HR:=h! hR;have HX:=h! hx;have HB:=h! hB;have bw:=h! cq;have ff:=h! dc;have fa:=h! ba;have hal3:al<=3:=by have h9:=hx.args;have:=aJW op;simp only at h9;omega
 have ah:Hid ((args.map s.vals).length=al):=h! (by rw[aZ,cq]);have bt:Hid (∀i,In64 ((args.map s.vals).getD i 0)):=h! (fun i=>by
  rw[aH]
  cases h9:(args.map s.vals)[i]? with
  | none=>exact⟨by decide,by decide⟩
  | some y=>
   have cx:=aG h9
   rw[aN]at cx
   obtain⟨q,_,rfl⟩:=cx
   exact hP.v64 q)
 clear hP hD hR hx hB cq dc ba ha;go_enter Tryz.func147,Tryz.ntmps147;go_upto_region 1 with(fail);have ek:=(Below.refl w.heap.size w).alloc (aC _) (.cells #[.int .i64 op,.int .i64 id,.slice aa al ca,.int .i64 n] 82);have HW:=h! ek;clear ek;have B3:=h! (Box.new w #[.int .i64 op,.int .i64 id,.slice aa al ca,.int .i64 n] 82);generalize w.alloc (.cells #[.int .i64 op,.int .i64 id,.slice aa al ca,.int .i64 n] 82)=wv at*;obtain⟨an,az,ax⟩:=B3.out;have df:=h! (HP.later HW.out);have dz:=B3;have cz:=HW;obtain⟨W3,cs⟩:∃W3,W3=wv:=⟨_,rfl⟩;have HS:Hid (qJ W3 wv):=h! (by rw[cs];exact Below.refl _ _);rw[<-cs]at df dz cz;have hW3w:w.heap.size<W3.heap.size:=by rw[cs];omega
 clear cs;go_wp2_with fail;go_loopw [5,13] (fun t i wr=>∃(q:Nat) (S:Foot) (a:Option Addr) (c:Nat),q<=al/\i=.int .i64 q/\t=.slice a q c/\fP wr S (.slice a q c) ((args.map s.vals).take q)/\nH W3.heap.size S/\qJ W3 wr) (fun _ i _=>al - (intOf i).toNat)
 case atStart=>exact⟨0,Foot.none,none,0,aL _,rfl,rfl,fP.nil none,fun _ h=>h.elim,HS.out⟩
 case round=>
  obtain⟨q,S,a5,c5,hq,rfl,rfl,hO,hF,hs⟩:=hrel;clear an az ax;clear HS B3 HW;have HS:=h! hs;have HO:=h! hO;have HF:=h! hF;have HW:Hid (Below w.heap.size w wr):=h! (cz.trans (Below.mono hs cz.size));have B3:=h! (dz.later hs);have ae:=h! (df.later hs);have hsr:W3.heap.size<=wr.heap.size:=Below.size hs;clear hs hO hF;obtain⟨an,az,ax⟩:=B3.out;by_cases hlt:q<al
  ·obtain⟨rfl,ds⟩:=ff.out (by omega);obtain⟨y,hy⟩:∃y,y=args.getD q 0:=⟨_,rfl⟩;have eb:=(HW.cell (p:=⟨ab,ao+q,none⟩) ds).trans (fa q hlt);rw[<-hy]at eb;have ej:Hid ((args.map s.vals).take (q+1)=(args.map s.vals).take q++[s.vals y]):=h! (by
    have h9:args[q]? =some y:=by rw[hy];exact gF args q (by have:=bw.out;omega)
    rw[cX,aM,h9];rfl)
   have cM:Hid (∀wg,Below wr.heap.size wr wg->(Instr.lookup 93 (.map (some mv)) (.int .i64 y) false).run Tryz.prog wg=.ok (.int .i64 (s.vals y)) wg):=h! (fun wg hbg=>by rw[((ae.later hbg).mp).lookup0 Tryz.underlying93 Tryz.underlying3 (iQ _) y,ae.val y]);have ag:=h! (ae.v64 y);have et:Hid (((args.map s.vals).take q).length=q):=h! (by rw[bB,ah.out];omega);have dw:Hid (Holds [] W3.heap.size wr S (fun W=>fP W S (.slice a5 q c5) ((args.map s.vals).take q))):=h! (iW HO.out HF.out);obtain⟨z,hz⟩:∃z,z=s.vals y:=⟨_,rfl⟩;rw[<-hz]at ej cM ag;clear hy hz HO;go_upto_region 5 with(fail);clear eb;refine oQ 8 (fun kz=>match kz with|7=>.made wr.heap.size (fun b=>.slice (some ⟨b,0,none⟩) 1 1) #[.int .i64 z]|_=>.plain) (by kernel_rfl) (by simp) ?_ (fun ν=> ?_)
   ·(intro k;(try dsimp only);split<;>first|exact True.intro|(intro u w1 w2 hu hb;exact hu.below hb))
   simp only[aP,aU,aR,aV];iterate 7 (refine Grow.val (v:= ?_) rfl rfl (fun wg hbg hdg=> ?_) ?_;rotate_left;(focus((obtain⟨lg0,cg0,fg0⟩:=B3.later hbg);(obtain⟨xl1,xc1,xf1⟩:=(ae.later hbg).box;have fe:=cM.out wg hbg);clear hbg hdg;first|(go_simp;done)|(go_simp;with_reducible rfl)));simp only[Act.put,aB,aE,aF])
   refine Grow.made (T:= ?_) rfl rfl (fun wg hbg hdg=> ?_) ?_;rotate_left;focus((obtain⟨lg0,cg0,fg0⟩:=B3.later hbg);(obtain⟨xl1,xc1,xf1⟩:=(ae.later hbg).box;have fe:=cM.out wg hbg);clear hbg hdg;first|(go_simp;done)|(go_simp;with_reducible rfl))
   simp only[Act.put,Known.val,aB,aE,aF];intro wg hb hf bp;obtain⟨cr,bk,cb,bd⟩:=hf 7 (by omega);have bf:cr≠w.heap.size:=fun e=>by have:=an;omega
   have cg:w.heap.size≠cr:=fun e=>bf e.symm;simp only[bk];clear bk;clear bp;have gBN:=aT HW.size cb;clear cb;clear an az ax;replace B3:=h! (B3.later hb);replace dw:=h! (dw.later hb);replace HS:=h! (HS.later hb);replace HW:=w! HW hb;clear hb;have BN:=h! bd;clear bd;obtain⟨an,az,ax⟩:=B3.out;obtain⟨db,dg,dt⟩:=BN.out;clear hf;clear an az ax db dg dt;refine sK rfl _ _ rfl rfl rfl et.out dw.now BN.out ag.out (by omega) ?_;intro g1 c1 ec q1 q2 q3;have dq:Hid (qJ W3 ec):=h! (Below.trans HS.out (q3.below (Below.size HS.out) (fun k _ hk=>HF k hk)));have cG:Hid (fP ec (Foot.one g1) (.slice (some ⟨g1,0,none⟩) (q+1) c1) ((args.map s.vals).take (q+1))):=h! (by rw[ej.out];exact q1);have dk:Hid (nH W3.heap.size (Foot.one g1)):=h! (fun k hk=>by
    cases hk;rcases q2 with h|h
    ·exact HF _ h
    exact aT (Below.size HS.out) h)
   clear q1 q2 q3;go_wp2;go_roundw
   case rel=>exact⟨q+1,_,_,_,hlt,by go_num,rfl,cG.out,dk.out,dq.out⟩
   simp[intOf];omega
  obtain rfl:al=q:=by omega
  have HV:Hid (fP wr S (.slice a5 al c5) (args.map s.vals)):=h! (by have h9:=HO.out;rw[aI (by rw[ah.out];omega)]at h9;exact h9);clear HO hlt hq;have bg:=HW;have ed:∀k,S k->¬D k:=fun k hk hd=>by obtain⟨i,hi⟩:=(HD k).1 hd;have:=HP.lt hi;have:=HF.out k hk;omega
  have dy:=h! ed;clear ed;have ck:=zH HX.shp;simp only at ck;rcases ck with rfl|rfl|rfl|rfl|rfl|rfl|rfl|rfl|rfl|rfl|ck
  ·have HI:Hid (gG ⟨1,id,args,n⟩ s=.go n s):=h! (by unfold gG;simp);rw[HI.out];go_wp2;go_ret;exact⟨rfl,MOk.still HD.out HP.out bg.out⟩
  ·have HI:Hid (gG ⟨2,id,args,n⟩ s=.go n s):=h! (by unfold gG;simp);rw[HI.out];go_wp2;go_ret;exact⟨rfl,MOk.still HD.out HP.out bg.out⟩
  ·skip;obtain⟨bh,bi⟩:=rU (show nOk ar ce 3 n=true from HX.n);obtain⟨nn,rfl⟩:∃nn:Nat,n=nn:=⟨n.toNat,by omega⟩;obtain⟨a,am⟩:∃a,s.arrays[nn]? =some a:=⟨_,aA (by have:=HR.al;omega)⟩;have aw:=h! am;have bl:=h! (HR.len a (aG am));clear am bh bi;have HI:=h! (aEN (op:=18) (id:=id) (args:=args) (s:=s) rfl rfl aw.out);obtain⟨ga,cap,c,ad,ew,hgal,-,aj,-,-⟩:=ae.arr.open aw.out;subst ew;obtain⟨lm,cm,fm⟩:=ae.box;have eg:nn<s.arrays.length:=(aD.1 aw.out).1;go_upto_region 12 with(fail);go_quiet (fail);clear cm fm aj;go_wp2;go_ret;rw[HI.out];exact⟨rfl,MOk.still HD.out HP.out (fS bg.out nq)⟩
  ·skip;obtain rfl:al=1:=by have h9:=HX.args;rw[<-bw.out]at h9;rw[h9];rfl
   obtain⟨b5,o5,c5,ay,ai,ap⟩:=kD HV.ints (by rw[ah.out];omega);rw[ah.out]at ay
   cases ay;have af:=ap 0 (by rw[ah.out];omega);rw[dE]at af;obtain⟨y,hy⟩:∃y,y=(args.map s.vals).getD 0 0:=⟨_,rfl⟩;rw[<-hy]at af;have HY:=h! hy.symm;have ag:Hid (In64 y):=h! (by rw[hy];exact bt 0);clear ap hy;obtain⟨bh,bi⟩:=rU (show nOk ar ce 3 n=true from HX.n);obtain⟨nn,rfl⟩:∃nn:Nat,n=nn:=⟨n.toNat,by omega⟩;obtain⟨a,am⟩:∃a,s.arrays[nn]? =some a:=⟨_,aA (by have:=HR.al;omega)⟩;have aw:=h! am;have bl:=h! (HR.len a (aG am));clear am bh bi;have HI:=h! (tG (op:=19) (id:=id) (n:=(nn:Int)) (args:=args) (s:=s) (by omega) rfl aw.out HY.out);go_upto_region 15 with(fail);refine wp_region_grow 9 (fun _=>.plain) (by kernel_rfl) (by kernel_rfl) ?_ (fun ν=> ?_)
   ·exact fun _=>trivial
   simp only[aP,aU,aR,aV];iterate 9 (refine Grow.val (v:= ?_) rfl rfl (fun wg hbg hdg=> ?_) ?_;rotate_left;(focus((obtain⟨lg0,cg0,fg0⟩:=B3.later hbg);(have ct:=(hbg.cell (p:=⟨b5,o5,none⟩) ai).trans af);clear hbg hdg;first|(go_simp;done)|(go_simp;with_reducible rfl)));simp only[Act.put,aB,aE,aF])
   intro wg hb hf bp;clear bp;clear an az ax;replace B3:=h! (B3.later hb);replace ae:=h! (ae.later hb);replace HW:=w! HW hb;clear hb;obtain⟨an,az,ax⟩:=B3.out;clear hf af;go_wp2_with fail;refine(aBA ae.mach (aT HB.out HW.size) HR.chk aw.out bl.out y ag.out true).mono ?_;rintro e w2 h9;rcases h9 with⟨bb,rfl,aq⟩|⟨j,g,xx,bq,ba,rfl,-,-,aq,aj,cj,-⟩
   ·have HE:=h! (HI.1 bb);unfold mC;go_wp2;refine⟨rfl, ?_⟩;rw[HE.out];exact⟨rfl,MOk.trans (Off.of_below HW.out D) (fun k hk=>.inl ((HD k).2 hk)) aq⟩
   have HE:=h! (HI.2 j xx bq ba);clear bq ba;go_wp2;go_ret;rw[HE.out];exact⟨rfl,MOk.trans (Off.of_below HW.out D) (fun k hk=>.inl ((HD k).2 hk)) aq⟩
  ·skip;obtain rfl:al=1:=by have h9:=HX.args;rw[<-bw.out]at h9;rw[h9];rfl
   obtain⟨b5,o5,c5,ay,ai,ap⟩:=kD HV.ints (by rw[ah.out];omega);rw[ah.out]at ay
   cases ay;have af:=ap 0 (by rw[ah.out];omega);rw[dE]at af;obtain⟨y,hy⟩:∃y,y=(args.map s.vals).getD 0 0:=⟨_,rfl⟩;rw[<-hy]at af;have HY:=h! hy.symm;have ag:Hid (In64 y):=h! (by rw[hy];exact bt 0);clear ap hy;obtain⟨bh,bi⟩:=rU (show nOk ar ce 3 n=true from HX.n);obtain⟨nn,rfl⟩:∃nn:Nat,n=nn:=⟨n.toNat,by omega⟩;obtain⟨a,am⟩:∃a,s.arrays[nn]? =some a:=⟨_,aA (by have:=HR.al;omega)⟩;have aw:=h! am;have bl:=h! (HR.len a (aG am));clear am bh bi;have HI:=h! (tG (op:=21) (id:=id) (n:=(nn:Int)) (args:=args) (s:=s) (by omega) rfl aw.out HY.out);go_upto_region 15 with(fail);refine wp_region_grow 9 (fun _=>.plain) (by kernel_rfl) (by kernel_rfl) ?_ (fun ν=> ?_)
   ·exact fun _=>trivial
   simp only[aP,aU,aR,aV];iterate 9 (refine Grow.val (v:= ?_) rfl rfl (fun wg hbg hdg=> ?_) ?_;rotate_left;(focus((obtain⟨lg0,cg0,fg0⟩:=B3.later hbg);(have ct:=(hbg.cell (p:=⟨b5,o5,none⟩) ai).trans af);clear hbg hdg;first|(go_simp;done)|(go_simp;with_reducible rfl)));simp only[Act.put,aB,aE,aF])
   intro wg hb hf bp;clear bp;clear an az ax;replace B3:=h! (B3.later hb);replace ae:=h! (ae.later hb);replace HW:=w! HW hb;clear hb;obtain⟨an,az,ax⟩:=B3.out;clear hf af;go_wp2_with fail;refine(aBA ae.mach (aT HB.out HW.size) HR.chk aw.out bl.out y ag.out false).mono ?_;rintro e w2 h9;rcases h9 with⟨bb,rfl,aq⟩|⟨j,g,xx,bq,ba,rfl,-,-,aq,aj,cj,-⟩
   ·have HE:=h! (HI.1 bb);unfold mC;go_wp2;refine⟨rfl, ?_⟩;rw[HE.out];exact⟨rfl,MOk.trans (Off.of_below HW.out D) (fun k hk=>.inl ((HD k).2 hk)) aq⟩
   have HE:=h! (HI.2 j xx bq ba);clear bq ba;go_wp2;go_ret;rw[HE.out];exact⟨rfl,MOk.trans (Off.of_below HW.out D) (fun k hk=>.inl ((HD k).2 hk)) aq⟩
  ·skip;obtain rfl:al=2:=by have h9:=HX.args;rw[<-bw.out]at h9;rw[h9];rfl
   obtain⟨b5,o5,c5,ay,ai,ap⟩:=kD HV.ints (by rw[ah.out];omega);rw[ah.out]at ay
   cases ay;have af:=ap 0 (by rw[ah.out];omega);have bj:=ap 1 (by rw[ah.out];omega);rw[dE]at af;obtain⟨y,hy⟩:∃y,y=(args.map s.vals).getD 0 0:=⟨_,rfl⟩;obtain⟨z,hz⟩:∃z,z=(args.map s.vals).getD 1 0:=⟨_,rfl⟩;rw[<-hy]at af;rw[<-hz]at bj;have HY:=h! hy.symm;have HZ:=h! hz.symm;have ag:Hid (In64 y):=h! (by rw[hy];exact bt 0);have cd:Hid (In64 z):=h! (by rw[hz];exact bt 1);have bn:Hid (¬D w.heap.size):=h! (fun hd=>by obtain⟨i,hi⟩:=(HD _).1 hd;have:=HP.lt hi;omega);have ak:Hid (¬D b5):=h! (dy b5 (by
    rcases HV.1.form with⟨h0,-⟩|⟨g9,c9,br,bo,bv,-⟩
    ·rw[ah.out]at h0;omega
    injection bo with q1 q2 q3;injection q1 with q1;injection q1 with q1;rw[q1];exact bv))
   have fd:Hid (o5=0):=h! (by
    rcases HV.1.form with⟨h0,-⟩|⟨g9,c9,br,bo,bv,-⟩
    ·rw[ah.out]at h0;omega
    injection bo with q1 q2 q3;injection q1 with q1;injection q1)
   clear ap hy hz;obtain⟨bh,bi⟩:=rU (show nOk ar ce 3 n=true from HX.n);obtain⟨nn,rfl⟩:∃nn:Nat,n=nn:=⟨n.toNat,by omega⟩;obtain⟨a,am⟩:∃a,s.arrays[nn]? =some a:=⟨_,aA (by have:=HR.al;omega)⟩;have aw:=h! am;have bl:=h! (HR.len a (aG am));clear am bh bi;have HI:=h! (rV (op:=20) (id:=id) (n:=(nn:Int)) (args:=args) (s:=s) (by omega) rfl aw.out HY.out HZ.out);go_upto_region 18 with(fail);clear an az ax;by_cases hw:y<0\/(a.length:Int)<=y
   ·have HE:=h! (HI.1 hw);refine kQ 13 9 D undef (fun _=>False) (fun ch W=>mC (aJM true)=.panicked ch/\MOk base bs fuel w bm D (oP true s) W) (by kernel_rfl) (by kernel_rfl) (by omega) (fun _ _ h _=>h) (fun ch a' w' hdf hz=> ?_) ?_
    ·obtain⟨h8,aq⟩:=hz;simp only at hdf;have cB:=h! aq;unfold mC at h8;injection h8 with h8;subst h8;go_wp2;refine⟨hdf, ?_⟩;rw[HE.out];exact⟨rfl,cB.out⟩
    simp only[aP,aU,aR,aV];iterate 9 ((refine jO.val (v':= ?_) (by omega) rfl (fun wg hbg=> ?_) ?_);(rotate_left);(focus((have ac:Off D wr wg:=hbg.elim (fun h=>Off.of_below h D) (fun h=>h.elim));(obtain⟨l3,c3,f3⟩:=B3.off ac bn.out);(have bz:=(ac.cell2 (p:=⟨b5,o5,none⟩) ai ak.out).trans af);(have bO:=(ac.cell2 (p:=⟨b5,o5+1,none⟩) ai ak.out).trans bj);clear ac hbg;first|(go_simp;done)|(go_simp;with_reducible rfl)));(simp only[Act.put,aB,aE,aF]))
    refine jO.call (f:= ?_) (args:= ?_) (by omega) rfl (fun wg=> ?_) (fun wg hbg=> ?_) ?_;rotate_left 2;focus(first|(go_simp;done)|(go_simp;refine And.intro ?_ ?_<;>with_reducible rfl)|(go_simp;with_reducible rfl))
    ·refine(aBA (ae.later hbg).mach (aT HB.out (aT HW.size hbg.size)) HR.chk aw.out bl.out y ag.out true).mono ?_;rintro e w2 h9;rcases h9 with⟨bb,rfl,aq⟩|⟨j,g,xx,bq,ba,-⟩
     ·exact .inr ⟨_,rfl,rfl,MOk.trans (Off.of_below (w! HW hbg) D) (fun k hk=>.inl ((HD k).2 hk)) aq⟩
     exfalso;have:=(aD.1 ba).1;omega
    simp only[Act.put,aB,aE,aF];iterate 3 ((refine jO.val (v':= ?_) (by omega) rfl (fun wg hbg=> ?_) ?_);(rotate_left);(focus((have ac:Off D wr wg:=hbg.elim (fun h=>Off.of_below h D) (fun h=>h.elim));(obtain⟨l3,c3,f3⟩:=B3.off ac bn.out);(have bz:=(ac.cell2 (p:=⟨b5,o5,none⟩) ai ak.out).trans af);(have bO:=(ac.cell2 (p:=⟨b5,o5+1,none⟩) ai ak.out).trans bj);clear ac hbg;first|(go_simp;done)|(go_simp;with_reducible rfl)));(simp only[Act.put,aB,aE,aF]))
    exact fun w' h=>h.elim
   obtain⟨j,hj⟩:∃j:Nat,y=j:=⟨y.toNat,by omega⟩;have co:j<a.length:=by omega
   have HE:=h! (HI.2 j hj co);obtain⟨g,hg⟩:=Mach.addr ae.out aw.out co;have HG:=h! hg;have HJ:=h! hj;clear hw hg hj;refine kQ 13 9 D (.pointer (some ⟨g,j,none⟩)) (fun W=>MOk base bs fuel w bm D { oP true s with arrays:=s.arrays.set nn (a.set j z) } (W.setCell ⟨g,j,none⟩ (.int .i64 z))/\Off D wr W/\W.frozen? ⟨g,j,none⟩=false/\(∃q,W.cell? ⟨g,j,none⟩=some (.int .i64 q))/\∀W',Below W.heap.size W W'->MOk base bs fuel w bm D { oP true s with arrays:=s.arrays.set nn (a.set j z) } (W'.setCell ⟨g,j,none⟩ (.int .i64 z))) (fun _ _=>False) (by kernel_rfl) (by kernel_rfl) (by omega) (fun W W' h hb=> ?_) (fun ch a' w' _ hz=>hz.elim) ?_
   ·obtain⟨-,k2,k3,⟨q4,k4⟩,k5⟩:=h;have k6:=World.block_lt_of_cell? W _ k4;exact⟨k5 W' hb,Off.trans k2 (Off.of_below hb D),(hb.frozen (p:=⟨g,j,none⟩) k6).trans k3,⟨q4,(hb.cell (p:=⟨g,j,none⟩) k6).trans k4⟩,fun W2 hb2=>k5 W2 (hb.trans (hb2.mono hb.size))⟩
   simp only[aP,aU,aR,aV];iterate 9 ((refine jO.val (v':= ?_) (by omega) rfl (fun wg hbg=> ?_) ?_);(rotate_left);(focus((have ac:Off D wr wg:=hbg.elim (fun h=>Off.of_below h D) (fun h=>h.2.1));(obtain⟨l3,c3,f3⟩:=B3.off ac bn.out);(have bz:=(ac.cell2 (p:=⟨b5,o5,none⟩) ai ak.out).trans af);(have bO:=(ac.cell2 (p:=⟨b5,o5+1,none⟩) ai ak.out).trans bj);clear ac hbg;first|(go_simp;done)|(go_simp;with_reducible rfl)));(simp only[Act.put,aB,aE,aF]))
   refine jO.call (f:= ?_) (args:= ?_) (by omega) rfl (fun wg=> ?_) (fun wg hbg=> ?_) ?_;rotate_left 2;focus(first|(go_simp;done)|(go_simp;refine And.intro ?_ ?_<;>with_reducible rfl)|(go_simp;with_reducible rfl))
   ·refine(aBA (ae.later hbg).mach (aT HB.out (aT HW.size hbg.size)) HR.chk aw.out bl.out y ag.out true).mono ?_;rintro e w2 h9;have hJ:=HJ.out;rcases h9 with⟨bb,-,-⟩|⟨j',g',xx,bq,ba,rfl,dp,fc,aq,aj,cj,bc⟩
    ·exfalso;omega
    left;obtain rfl:j=j':=by omega
    obtain rfl:g=g':=(HG.below hbg).one dp;have da:=HW.trans (hbg.mono HW.size);have be:∀W',Below w2.heap.size w2 W'->MOk base bs fuel w bm D { oP true s with arrays:=s.arrays.set nn (a.set j z) } (W'.setCell ⟨g,j,none⟩ (.int .i64 z)):=fun W' hb=>MOk.trans (Off.of_below da D) (fun k hk=>.inl ((HD k).2 hk)) (bc W' z hb cd.out);obtain⟨D1,er,cL,es⟩:=aq;exact⟨rfl,be w2 (Below.refl _ _),Off.trans (Off.of_below hbg D) (cL.mono fun k _ hk=>(HD k).2 hk),cj,⟨_,aj⟩,be⟩
   simp only[Act.put,aB,aE,aF];iterate 3 ((refine jO.val (v':= ?_) (by omega) rfl (fun wg hbg=> ?_) ?_);(rotate_left);(focus((have ac:Off D wr wg:=hbg.elim (fun h=>Off.of_below h D) (fun h=>h.2.1));(obtain⟨l3,c3,f3⟩:=B3.off ac bn.out);(have bz:=(ac.cell2 (p:=⟨b5,o5,none⟩) ai ak.out).trans af);(have bO:=(ac.cell2 (p:=⟨b5,o5+1,none⟩) ai ak.out).trans bj);clear ac hbg;first|(go_simp;done)|(go_simp;with_reducible rfl)));(simp only[Act.put,aB,aE,aF]))
   rintro w9 ⟨k1,-,k3,⟨q4,k4⟩,-⟩;have K1:=h! k1;clear k1;go_wp2;go_ret;rw[HE.out];exact⟨rfl,K1.out⟩
  ·skip;obtain rfl:al=2:=by have h9:=HX.args;rw[<-bw.out]at h9;rw[h9];rfl
   obtain⟨b5,o5,c5,ay,ai,ap⟩:=kD HV.ints (by rw[ah.out];omega);rw[ah.out]at ay
   cases ay;have af:=ap 0 (by rw[ah.out];omega);have bj:=ap 1 (by rw[ah.out];omega);rw[dE]at af;obtain⟨y,hy⟩:∃y,y=(args.map s.vals).getD 0 0:=⟨_,rfl⟩;obtain⟨z,hz⟩:∃z,z=(args.map s.vals).getD 1 0:=⟨_,rfl⟩;rw[<-hy]at af;rw[<-hz]at bj;have HY:=h! hy.symm;have HZ:=h! hz.symm;have ag:Hid (In64 y):=h! (by rw[hy];exact bt 0);have cd:Hid (In64 z):=h! (by rw[hz];exact bt 1);have bn:Hid (¬D w.heap.size):=h! (fun hd=>by obtain⟨i,hi⟩:=(HD _).1 hd;have:=HP.lt hi;omega);have ak:Hid (¬D b5):=h! (dy b5 (by
    rcases HV.1.form with⟨h0,-⟩|⟨g9,c9,br,bo,bv,-⟩
    ·rw[ah.out]at h0;omega
    injection bo with q1 q2 q3;injection q1 with q1;injection q1 with q1;rw[q1];exact bv))
   have fd:Hid (o5=0):=h! (by
    rcases HV.1.form with⟨h0,-⟩|⟨g9,c9,br,bo,bv,-⟩
    ·rw[ah.out]at h0;omega
    injection bo with q1 q2 q3;injection q1 with q1;injection q1)
   clear ap hy hz;obtain⟨bh,bi⟩:=rU (show nOk ar ce 3 n=true from HX.n);obtain⟨nn,rfl⟩:∃nn:Nat,n=nn:=⟨n.toNat,by omega⟩;obtain⟨a,am⟩:∃a,s.arrays[nn]? =some a:=⟨_,aA (by have:=HR.al;omega)⟩;have aw:=h! am;have bl:=h! (HR.len a (aG am));clear am bh bi;have HI:=h! (rV (op:=22) (id:=id) (n:=(nn:Int)) (args:=args) (s:=s) (by omega) rfl aw.out HY.out HZ.out);go_upto_region 18 with(fail);clear an az ax;by_cases hw:y<0\/(a.length:Int)<=y
   ·have HE:=h! (HI.1 hw);refine kQ 13 9 D undef (fun _=>False) (fun ch W=>mC (aJM false)=.panicked ch/\MOk base bs fuel w bm D (oP false s) W) (by kernel_rfl) (by kernel_rfl) (by omega) (fun _ _ h _=>h) (fun ch a' w' hdf hz=> ?_) ?_
    ·obtain⟨h8,aq⟩:=hz;simp only at hdf;have cB:=h! aq;unfold mC at h8;injection h8 with h8;subst h8;go_wp2;refine⟨hdf, ?_⟩;rw[HE.out];exact⟨rfl,cB.out⟩
    simp only[aP,aU,aR,aV];iterate 9 ((refine jO.val (v':= ?_) (by omega) rfl (fun wg hbg=> ?_) ?_);(rotate_left);(focus((have ac:Off D wr wg:=hbg.elim (fun h=>Off.of_below h D) (fun h=>h.elim));(obtain⟨l3,c3,f3⟩:=B3.off ac bn.out);(have bz:=(ac.cell2 (p:=⟨b5,o5,none⟩) ai ak.out).trans af);(have bO:=(ac.cell2 (p:=⟨b5,o5+1,none⟩) ai ak.out).trans bj);clear ac hbg;first|(go_simp;done)|(go_simp;with_reducible rfl)));(simp only[Act.put,aB,aE,aF]))
    refine jO.call (f:= ?_) (args:= ?_) (by omega) rfl (fun wg=> ?_) (fun wg hbg=> ?_) ?_;rotate_left 2;focus(first|(go_simp;done)|(go_simp;refine And.intro ?_ ?_<;>with_reducible rfl)|(go_simp;with_reducible rfl))
    ·refine(aBA (ae.later hbg).mach (aT HB.out (aT HW.size hbg.size)) HR.chk aw.out bl.out y ag.out false).mono ?_;rintro e w2 h9;rcases h9 with⟨bb,rfl,aq⟩|⟨j,g,xx,bq,ba,-⟩
     ·exact .inr ⟨_,rfl,rfl,MOk.trans (Off.of_below (w! HW hbg) D) (fun k hk=>.inl ((HD k).2 hk)) aq⟩
     exfalso;have:=(aD.1 ba).1;omega
    simp only[Act.put,aB,aE,aF];iterate 3 ((refine jO.val (v':= ?_) (by omega) rfl (fun wg hbg=> ?_) ?_);(rotate_left);(focus((have ac:Off D wr wg:=hbg.elim (fun h=>Off.of_below h D) (fun h=>h.elim));(obtain⟨l3,c3,f3⟩:=B3.off ac bn.out);(have bz:=(ac.cell2 (p:=⟨b5,o5,none⟩) ai ak.out).trans af);(have bO:=(ac.cell2 (p:=⟨b5,o5+1,none⟩) ai ak.out).trans bj);clear ac hbg;first|(go_simp;done)|(go_simp;with_reducible rfl)));(simp only[Act.put,aB,aE,aF]))
    exact fun w' h=>h.elim
   obtain⟨j,hj⟩:∃j:Nat,y=j:=⟨y.toNat,by omega⟩;have co:j<a.length:=by omega
   have HE:=h! (HI.2 j hj co);obtain⟨g,hg⟩:=Mach.addr ae.out aw.out co;have HG:=h! hg;have HJ:=h! hj;clear hw hg hj;refine kQ 13 9 D (.pointer (some ⟨g,j,none⟩)) (fun W=>MOk base bs fuel w bm D { oP false s with arrays:=s.arrays.set nn (a.set j z) } (W.setCell ⟨g,j,none⟩ (.int .i64 z))/\Off D wr W/\W.frozen? ⟨g,j,none⟩=false/\(∃q,W.cell? ⟨g,j,none⟩=some (.int .i64 q))/\∀W',Below W.heap.size W W'->MOk base bs fuel w bm D { oP false s with arrays:=s.arrays.set nn (a.set j z) } (W'.setCell ⟨g,j,none⟩ (.int .i64 z))) (fun _ _=>False) (by kernel_rfl) (by kernel_rfl) (by omega) (fun W W' h hb=> ?_) (fun ch a' w' _ hz=>hz.elim) ?_
   ·obtain⟨-,k2,k3,⟨q4,k4⟩,k5⟩:=h;have k6:=World.block_lt_of_cell? W _ k4;exact⟨k5 W' hb,Off.trans k2 (Off.of_below hb D),(hb.frozen (p:=⟨g,j,none⟩) k6).trans k3,⟨q4,(hb.cell (p:=⟨g,j,none⟩) k6).trans k4⟩,fun W2 hb2=>k5 W2 (hb.trans (hb2.mono hb.size))⟩
   simp only[aP,aU,aR,aV];iterate 9 ((refine jO.val (v':= ?_) (by omega) rfl (fun wg hbg=> ?_) ?_);(rotate_left);(focus((have ac:Off D wr wg:=hbg.elim (fun h=>Off.of_below h D) (fun h=>h.2.1));(obtain⟨l3,c3,f3⟩:=B3.off ac bn.out);(have bz:=(ac.cell2 (p:=⟨b5,o5,none⟩) ai ak.out).trans af);(have bO:=(ac.cell2 (p:=⟨b5,o5+1,none⟩) ai ak.out).trans bj);clear ac hbg;first|(go_simp;done)|(go_simp;with_reducible rfl)));(simp only[Act.put,aB,aE,aF]))
   refine jO.call (f:= ?_) (args:= ?_) (by omega) rfl (fun wg=> ?_) (fun wg hbg=> ?_) ?_;rotate_left 2;focus(first|(go_simp;done)|(go_simp;refine And.intro ?_ ?_<;>with_reducible rfl)|(go_simp;with_reducible rfl))
   ·refine(aBA (ae.later hbg).mach (aT HB.out (aT HW.size hbg.size)) HR.chk aw.out bl.out y ag.out false).mono ?_;rintro e w2 h9;have hJ:=HJ.out;rcases h9 with⟨bb,-,-⟩|⟨j',g',xx,bq,ba,rfl,dp,fc,aq,aj,cj,bc⟩
    ·exfalso;omega
    left;obtain rfl:j=j':=by omega
    obtain rfl:g=g':=(HG.below hbg).one dp;have da:=HW.trans (hbg.mono HW.size);have be:∀W',Below w2.heap.size w2 W'->MOk base bs fuel w bm D { oP false s with arrays:=s.arrays.set nn (a.set j z) } (W'.setCell ⟨g,j,none⟩ (.int .i64 z)):=fun W' hb=>MOk.trans (Off.of_below da D) (fun k hk=>.inl ((HD k).2 hk)) (bc W' z hb cd.out);obtain⟨D1,er,cL,es⟩:=aq;exact⟨rfl,be w2 (Below.refl _ _),Off.trans (Off.of_below hbg D) (cL.mono fun k _ hk=>(HD k).2 hk),cj,⟨_,aj⟩,be⟩
   simp only[Act.put,aB,aE,aF];iterate 3 ((refine jO.val (v':= ?_) (by omega) rfl (fun wg hbg=> ?_) ?_);(rotate_left);(focus((have ac:Off D wr wg:=hbg.elim (fun h=>Off.of_below h D) (fun h=>h.2.1));(obtain⟨l3,c3,f3⟩:=B3.off ac bn.out);(have bz:=(ac.cell2 (p:=⟨b5,o5,none⟩) ai ak.out).trans af);(have bO:=(ac.cell2 (p:=⟨b5,o5+1,none⟩) ai ak.out).trans bj);clear ac hbg;first|(go_simp;done)|(go_simp;with_reducible rfl)));(simp only[Act.put,aB,aE,aF]))
   rintro w9 ⟨k1,-,k3,⟨q4,k4⟩,-⟩;have K1:=h! k1;clear k1;go_wp2;go_ret;rw[HE.out];exact⟨rfl,K1.out⟩
  ·skip;obtain rfl:al=1:=by have h9:=HX.args;rw[<-bw.out]at h9;rw[h9];rfl
   obtain⟨b5,o5,c5,ay,ai,ap⟩:=kD HV.ints (by rw[ah.out];omega);rw[ah.out]at ay
   cases ay;have af:=ap 0 (by rw[ah.out];omega);rw[dE]at af;obtain⟨y,hy⟩:∃y,y=(args.map s.vals).getD 0 0:=⟨_,rfl⟩;rw[<-hy]at af;have HY:=h! hy.symm;have ag:Hid (In64 y):=h! (by rw[hy];exact bt 0);clear ap hy;have HI:=h! (aEQ (id:=id) (n:=n) (args:=args) (s:=s) HY.out);obtain⟨oa,oc,ep⟩:=ae.out.out.ints.form;subst ep;obtain⟨ol,cw⟩:∃ol,ol=s.out.length:=⟨_,rfl⟩;rw[<-cw]at ae HP df HI;have en:=h! cw;have hol4:ol<=4096:=by rw[cw];exact HR.out.out
   clear cw;obtain⟨lm,cm,fm⟩:=ae.box;by_cases hfull:ol=4096
   ·rw[if_pos hfull]at HI;have ht:(((ol:Nat):Int) == 4096)=true:=by rw[hfull];rfl
    clear hfull;go_wp2_with fail;refine(endC 4).mono ?_;rintro e w2 ⟨rfl,hb⟩;unfold mC;go_wp2;refine⟨rfl, ?_⟩;rw[HI.out];exact⟨rfl,MOk.still HD.out HP.out (w! bg hb)⟩
   rw[if_neg hfull]at HI;have ht:(((ol:Nat):Int) == 4096)=false:=by simp;omega
   go_upto_region 23 with(fail);clear ht lm cm fm;obtain⟨XF,dx,cF⟩:∃XF:Nat->Foot,(∀q k,q≠10->¬XF q k)/\∀k,XF 10 k↔F 1 k:=⟨fun q=>if q=10 then F 1 else Foot.none,fun q k hq h=>by simp only[if_neg hq]at h;exact h.elim,fun k=>by simp⟩;have ef:=h! dx;have ez:=h! cF;have cf:Hid (∀k,Four.All XF k->F 1 k):=h! (fun k ⟨q,hq⟩=>by
    by_cases e:q=10
    ·subst e;exact(cF k).1 hq
    exact absurd hq (dx q k e))
   clear dx cF;have xW:∀q k,XF q k->k<wr.heap.size:=fun q k h=>ae.lt (cf k ⟨q,h⟩);have xI:∀w w':World,True->Below w.heap.size w w'->True:=fun _ _ _ _=>trivial;have fg:True:=trivial;have dj:¬Four.All XF w.heap.size:=fun h=>by have:=HP.lt (cf _ h);omega
   have dv:Hid (¬F 1 bm):=h! (fun h=>ae.apart 0 1 (by omega) _ ((ae.b0 _).2 rfl) h);have ak:Hid (¬F 1 b5):=h! (fun h=>by
    rcases HV.1.form with⟨h0,-⟩|⟨g9,c9,br,bo,bv,-⟩
    ·rw[ah.out]at h0;omega
    injection bo with q1 q2 q3;injection q1 with q1;injection q1 with q1;rw[<-q1]at bv;exact dy b5 bv ((HD b5).2 ⟨1,h⟩))
   have HNB3:Hid (¬F 1 w.heap.size):=h! (fun h=>by have:=HP.lt h;omega);refine Four.wp_region_grow (XF:=XF) (I:=(fun _=>True)) 11 (fun ν kz=>match kz with|9=>.made wr.heap.size (fun b=>.slice (some ⟨b,0,none⟩) 1 1) #[.int .i64 y]|10=>.holds (fun u w'=>∃(g1 c1:Nat),u=.slice (some ⟨g1,0,none⟩) (ol+1) c1/\fP w' (Foot.one g1) u (s.out++[y])/\(F 1 g1\/wr.heap.size<=g1))|_=>.plain) (by kernel_rfl) (by kernel_rfl) ?_ ?_ xW xI fg ?_ (fun ν=> ?_)
   ·(intro ν k;(try dsimp only);split<;>first|exact True.intro|(intro u w1 w2 hu hb;(obtain⟨g1,c1,e1,h2,h3⟩:=hu;exact⟨g1,c1,e1,h2.off hb (fun k _ ⟨q,q1,q2⟩=>ef q k q1 q2),h3⟩)))
   ·(intro ν ν' k h;first|rfl|((try dsimp only);split<;>first|rfl))
   ·(intro ν j B mk A h;(try dsimp only at h);split at h<;>first|(cases h;exact Nat.le_refl _)|cases h)
   simp only[aP,aU,aR,aV];iterate 9 (refine Four.Grow.val (v:= ?_) rfl rfl (fun wg hbg hdg=> ?_) ?_;rotate_left;(focus((obtain⟨lg0,cg0,fg0⟩:=B3.off hbg.off dj);(have ac:Off (F 1) wr wg:=hbg.off.mono (fun k _ hk=>cf k hk);obtain⟨xl1,xc1,xf1⟩:=ae.box.off ac dv.out;have ct:=(ac.cell2 (p:=⟨b5,o5,none⟩) ai ak.out).trans af);clear hbg hdg;first|(go_simp;done)|(go_simp;with_reducible rfl)));simp only[Act.put,aB,aE,aF])
   refine Four.Grow.made (T:= ?_) rfl rfl (fun wg hbg hdg=> ?_) ?_;rotate_left;focus((obtain⟨lg0,cg0,fg0⟩:=B3.off hbg.off dj);(have ac:Off (F 1) wr wg:=hbg.off.mono (fun k _ hk=>cf k hk);obtain⟨xl1,xc1,xf1⟩:=ae.box.off ac dv.out;have ct:=(ac.cell2 (p:=⟨b5,o5,none⟩) ai ak.out).trans af);clear hbg hdg;first|(go_simp;done)|(go_simp;with_reducible rfl))
   simp only[Act.put,Known.val,aB,aE,aF];refine Four.Grow.gives rfl (fun wg hbg hdg=> ?_) ?_;focus((obtain⟨bx,e9,hbx,ev⟩:=hdg 9 (by kernel_rfl));simp only[e9];exact xU (xs:=s.out) (n:=ol) _ _ rfl rfl rfl en.symm (ae.out.out.off hbg.1 (fun k hk ⟨q,q1,_,q2⟩=>ef q k q1 q2)) ev ag.out (by omega) (fun k hk=>(ez k).2 hk) (fun g1 c1 w'' h2 h3=>⟨g1,c1,rfl,h2,h3.imp_right (aT hbg.1.size)⟩))
   simp only[Act.put,Known.val,aB,aE,aF];intro wg hb hf bp;obtain⟨cr,bk,cb,bd⟩:=hf 9 (by omega);have bf:cr≠w.heap.size:=fun e=>by have:=an;omega
   have cg:w.heap.size≠cr:=fun e=>bf e.symm;simp only[bk];clear bk;clear bp;clear an az ax;replace B3:=h! (B3.off hb.1 dj);have BN:=h! bd;clear bd;obtain⟨an,az,ax⟩:=B3.out;obtain⟨db,dg,dt⟩:=BN.out;have cx:∃(g1 c1:Nat),ν 10=.slice (some ⟨g1,0,none⟩) (ol+1) c1/\fP wg (Foot.one g1) (ν 10) (s.out++[y])/\(F 1 g1\/wr.heap.size<=g1):=hf 10 (by omega);obtain⟨g1,c1,cn,ho,dr⟩:=cx;rw[cn]at ho;simp only[bM,Nat.reduceAdd,cn];have ac:Off (F 1) wr wg:=hb.1.mono (fun k _ hk=>cf k hk);have dm:Hid (MachP base bs fuel (wg.setCell ⟨bm,3,none⟩ (.slice (some ⟨g1,0,none⟩) (ol+1) c1)) bm { s with out:=s.out++[y] } ⟨0,0,0⟩ (.slice (some ⟨g1,0,none⟩) (ol+1) c1) av vv cv mv m (newF F 1 (Foot.one g1))):=h! (ae.outs ac (fun k hk=>by cases hk;exact dr) (aT HB.out bg.size) ho);have cy:Hid (Off (fun k=>∃i,F i k) w (wg.setCell ⟨bm,3,none⟩ (.slice (some ⟨g1,0,none⟩) (ol+1) c1))):=h! (((Off.of_below bg.out _).trans (ac.mono fun k _ hk=>⟨1,hk⟩)).trans ((Off.set wg ⟨bm,3,none⟩ _).mono fun k _ hk=>⟨0,(HP.b0 k).2 hk⟩));have de:Hid (∀j k,newF F 1 (Foot.one g1) j k->F j k\/w.heap.size<=k):=h! (yW fun k hk=>by cases hk;exact dr.imp_right (aT bg.size));obtain⟨lm,cm,fm⟩:=ae.box.off ac dv.out;clear an az ax db dg dt;clear ho ac cn hf hb af hfull dr;go_wp2;go_ret;rw[HI.out];exact⟨rfl,MOk.of HD.out dm.out cy.out de.out⟩
  ·skip;obtain⟨bh,bi⟩:=aIS (show nOk ar ce 4 n=true from HX.n);obtain⟨nn,rfl⟩:∃nn:Nat,n=nn:=⟨n.toNat,by omega⟩;obtain⟨z,hz⟩:∃z,s.cells[nn]? =some z:=⟨_,aA (by have:=HR.cl;omega)⟩;have HI:=h! (aER (id:=id) (args:=args) (s:=s) (n:=(nn:Int)) rfl hz);obtain⟨gc,cc,dh,di,dl,dn,dd,-⟩:=ae.cel.addr hz;subst dh;have eg:nn<s.cells.length:=(aD.1 hz).1;obtain⟨lm,cm,fm⟩:=ae.box;clear hz;go_upto_region 26 with(fail);go_quiet (fail);clear cm fm dn dd;go_wp2;go_ret;rw[HI.out];exact⟨rfl,MOk.still HD.out HP.out (fS bg.out nq)⟩
  ·skip;obtain rfl:al=1:=by have h9:=HX.args;rw[<-bw.out]at h9;rw[h9];rfl
   obtain⟨b5,o5,c5,ay,ai,ap⟩:=kD HV.ints (by rw[ah.out];omega);rw[ah.out]at ay
   cases ay;have af:=ap 0 (by rw[ah.out];omega);rw[dE]at af;obtain⟨y,hy⟩:∃y,y=(args.map s.vals).getD 0 0:=⟨_,rfl⟩;rw[<-hy]at af;have HY:=h! hy.symm;have ag:Hid (In64 y):=h! (by rw[hy];exact bt 0);clear ap hy;obtain⟨bh,bi⟩:=aIS (show nOk ar ce 4 n=true from HX.n);obtain⟨nn,rfl⟩:∃nn:Nat,n=nn:=⟨n.toNat,by omega⟩;obtain⟨z,hz⟩:∃z,s.cells[nn]? =some z:=⟨_,aA (by have:=HR.cl;omega)⟩;have HI:=h! (aES (id:=id) (args:=args) (s:=s) (n:=(nn:Int)) rfl HY.out);have HZ:=h! hz;obtain⟨gc,cc,dh,di,dl,dn,dd,-⟩:=ae.cel.addr hz;subst dh;have eg:nn<s.cells.length:=(aD.1 hz).1;have ea:=h! di;clear hz dn dd di;go_upto_region 28 with(fail);refine wp_region_grow 10 (fun _=>.plain) (by kernel_rfl) (by kernel_rfl) ?_ (fun ν=> ?_)
   ·exact fun _=>trivial
   simp only[aP,aU,aR,aV];iterate 10 (refine Grow.val (v:= ?_) rfl rfl (fun wg hbg hdg=> ?_) ?_;rotate_left;(focus((obtain⟨lg0,cg0,fg0⟩:=B3.later hbg);(have ct:=(hbg.cell (p:=⟨b5,o5,none⟩) ai).trans af;obtain⟨xl1,xc1,xf1⟩:=(ae.later hbg).box);clear hbg hdg;first|(go_simp;done)|(go_simp;with_reducible rfl)));simp only[Act.put,aB,aE,aF])
   intro wg hb hf bp;clear bp;clear an az ax;replace B3:=h! (B3.later hb);replace ae:=h! (ae.later hb);replace HW:=w! HW hb;clear hb;obtain⟨an,az,ax⟩:=B3.out;clear hf af;clear an az ax;obtain⟨ex,fb,ci,-,hgcl2,hcz2,hcf2,bc⟩:=ae.cel.addr HZ.out;obtain⟨rfl,rfl⟩:gc=ex/\cc=fb:=by injection ci with q1 q2 q3;injection q1 with q1;injection q1 with q1;exact⟨q1,q3⟩
   have em:=bc y ag.out;have ey:=h! em;clear bc em ci;go_wp2;go_ret;rw[HI.out];have cp:=Off.set wg ⟨gc,nn,none⟩ (.int .i64 y);refine⟨rfl,MOk.of (F':=newF F 5 (F 5)) HD.out (ae.turn 5 (by omega) (by omega) (s':={ s with cells:=s.cells.set nn y }) (G:=F 5) (cp.mono fun k _ hk=>by cases hk;exact ea) (fun k hk=>.inl hk) (aT HB.out HW.size) (fun e=>by omega) ⟨rfl,rfl⟩ (by rw[if_neg (by omega)]) (by rw[if_neg (by omega)]) (by rw[if_neg (by omega)]) (by rw[if_pos rfl];exact ey) (by rw[if_neg (by omega)];exact⟨rfl,rfl⟩)) ?_ (fun i k hk=> ?_)⟩
   ·exact(Off.of_below HW.out _).trans (cp.mono fun k _ hk=>by cases hk;exact⟨5,ea.out⟩)
   unfold newF at hk;split at hk
   ·rename_i e;subst e;exact .inl hk
   exact .inl hk
  have HI:=h! (tH (id:=id) (n:=n) (args:=args) (s:=s) ck);have e1:(op == 1)=false:=by simp;omega
  have e2:(op == 2)=false:=by simp;omega
  have e3:(op == 18)=false:=by simp;omega
  have e4:(op == 19)=false:=by simp;omega
  have e5:(op == 21)=false:=by simp;omega
  have e6:(op == 20)=false:=by simp;omega
  have e7:(op == 22)=false:=by simp;omega
  have e8:(op == 23)=false:=by simp;omega
  have e9:(op == 24)=false:=by simp;omega
  have cn:(op == 25)=false:=by simp;omega
  clear ck;go_wp2_with fail;clear e1 e2 e3 e4 e5 e6 e7 e8 e9 cn;refine(aM5 (op:=op) HV.ints).mono ?_;rintro e w2 ⟨rfl,hb⟩;obtain⟨ee,ei⟩:∃ee,ee=pZ op (args.map s.vals):=⟨_,rfl⟩;rw[<-ei]at HI⊢;clear ei
  cases h0:(ee != 0)
  ·rw[if_neg (by simpa using h0)]at HI;go_wp2;go_ret;rw[HI.out];exact⟨rfl,MOk.still HD.out HP.out (w! bg hb)⟩
  rw[if_pos (by simpa using h0)]at HI;go_wp2_with fail;refine(aG4 (-1)).mono ?_;rintro e w3 ⟨rfl,eo⟩;unfold mC;go_wp2;refine⟨rfl, ?_⟩;rw[HI.out];have h9:=bg.trans (hb.mono bg.size);exact⟨rfl,MOk.still HD.out HP.out (h9.trans (eo.mono h9.size))⟩
end Go.Proofs.YtagabiidbbhhmaaGreat
