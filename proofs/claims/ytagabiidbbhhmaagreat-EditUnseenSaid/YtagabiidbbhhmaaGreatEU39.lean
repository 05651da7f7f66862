/- Part 39. -/
import Derived.Test.YtagabiidbbhhmaaGreatEU38
namespace Go.Proofs.YtagabiidbbhhmaaGreat
set_option linter.all false
open Go.RowKit
structure BlockV (W:World) (v:Value) (x:BlockD):Prop where
 ex:∃ pv uv tv,v = .agg #[pv,uv,.int .i64 x.term.op,.int .i64 x.term.val,tv,.int .i64 x.term.n]/\eU PhiR 4 W pv x.phis/\eU gZ 4 W uv x.code/\Ints W tv x.term.to
 op:In64 x.term.op
 val:In64 x.term.val
 n:In64 x.term.n
theorem BlockV.below {W W' : World} {v:Value} {x:BlockD} (h:BlockV W v x) (hb:Below W.heap.size W W'):BlockV W' v x:=by
 obtain ⟨⟨pv,uv,tv,e,h1,h2,h3⟩,a,b,c⟩:=h
 exact ⟨⟨pv,uv,tv,e,h1.below PhiR.lasting hb,h2.below gZ.lasting hb,h3.below hb⟩,a,b,c⟩
theorem BlockC.blockV {W:World} {b o:Nat} {x:BlockD} {ap ai at_:Option Addr} {cp ci ct:Nat} (h:BlockC W b o x ap ai at_ cp ci ct):BlockV W (.agg #[.slice ap x.phis.length cp,.slice ai x.code.length ci,.int .i64 x.term.op,.int .i64 x.term.val,.slice at_ x.term.to.length ct,.int .i64 x.term.n]) x :=
 ⟨⟨_,_,_,rfl,h.phis,h.code,h.to⟩,h.op64,h.val64,h.n64⟩
def aDA (x:BlockD) (w:World) (e:Ending) (w' : World):Prop :=
 ∃ (pv uv tv:Value) (S:Foot),e = .returned (.agg #[pv,uv,.int .i64 x.term.op,.int .i64 x.term.val,tv,.int .i64 x.term.n])/\OBlock w' S [pv,uv,.int .i64 x.term.op,.int .i64 x.term.val,tv,.int .i64 x.term.n] x/\kC w.heap.size S/\Below w.heap.size w w'
set_option maxHeartbeats 25600000 in
set_option maxRecDepth 100000 in
theorem rQ {w:World} {v:Value} {x:BlockD} (hv:BlockV w v x) (hp1:x.phis.length <= 100000) (hc1:x.code.length <= 100000):Calls Tryz.prog 91 #[v] w (aDA x w):=by
 have HX:=h! hv
 obtain ⟨⟨pv,uv,tv,rfl,hp,hc,ht⟩, -, -, -⟩:=hv
 obtain ⟨ap,cp,bp,op_,rfl,ew,hpm,cr,dg,ed⟩:=fH hp
 obtain ⟨ac,cc,bc,oc,rfl,eo,hcm,bx,dm,dx⟩:=fS hc
 obtain ⟨ta,tc,rfl⟩:=ht.form
 obtain ⟨tl,br⟩ : ∃ n,n=x.term.to.length:=⟨_,rfl⟩
 rw [<-br] at ht
 have ex:=h! br
 obtain ⟨pl,da⟩ : ∃ n,n=x.phis.length:=⟨_,rfl⟩
 obtain ⟨cl,cG⟩ : ∃ n,n=x.code.length:=⟨_,rfl⟩
 obtain ⟨op,df⟩ : ∃ n,n=x.term.op:=⟨_,rfl⟩
 obtain ⟨val,bl⟩ : ∃ n,n=x.term.val:=⟨_,rfl⟩
 obtain ⟨tn,di⟩ : ∃ n,n=x.term.n:=⟨_,rfl⟩
 have ey:Hid (op=x.term.op/\val=x.term.val/\tn=x.term.n):=h! ⟨df,bl,di⟩
 unfold aDA
 rw [<-df, <-bl, <-di]
 rw [<-da] at hp1 ew dg ⊢
 rw [<-cG] at hc1 eo dm ⊢
 have dh:=h! da
 have dn:=h! cG
 have ez:=h! dg
 have eb:=h! ed
 have en:=h! dm
 have ea:=h! dx
 have fa:=h! ht
 rw [<-br] at HX
 rw [<-br]
 clear hp hc ht br dg ed dm dx da cG df bl di cr bx
 go_enter Tryz.func91,Tryz.ntmps91
 go_upto_region 2 with (fail)
 have aq:=(Below.refl w.heap.size w).alloc (aC _) (.cells #[.slice ap pl cp,.slice ac cl cc,.int .i64 op,.int .i64 val,.slice ta tl tc,.int .i64 tn] 63)
 have HW:=h! aq
 clear aq
 have B1:=h! (Box.new w #[.slice ap pl cp,.slice ac cl cc,.int .i64 op,.int .i64 val,.slice ta tl tc,.int .i64 tn] 63)
 have bk:(w.alloc (.cells #[.slice ap pl cp,.slice ac cl cc,.int .i64 op,.int .i64 val,.slice ta tl tc,.int .i64 tn] 63)).heap.size=w.heap.size+1:=World.size_alloc _ _
 generalize w.alloc (.cells #[.slice ap pl cp,.slice ac cl cc,.int .i64 op,.int .i64 val,.slice ta tl tc,.int .i64 tn] 63)=cg at *
 have aq:=(Below.refl cg.heap.size cg).alloc (aC _) (.cells #[.slice none 0 0,.slice none 0 0,.int .i64 0,.int .i64 0,.slice none 0 0,.int .i64 0] 63)
 replace B1:=h! (B1.out.later aq)
 replace HW:=h! (HW.out.trans (aq.mono HW.out.size))
 clear aq
 have B2:=h! (Box.new cg #[.slice none 0 0,.slice none 0 0,.int .i64 0,.int .i64 0,.slice none 0 0,.int .i64 0] 63)
 rw [bk] at B2
 have co:(cg.alloc (.cells #[.slice none 0 0,.slice none 0 0,.int .i64 0,.int .i64 0,.slice none 0 0,.int .i64 0] 63)).heap.size=w.heap.size+1+1:=by rw [World.size_alloc,bk]
 clear bk
 generalize cg.alloc (.cells #[.slice none 0 0,.slice none 0 0,.int .i64 0,.int .i64 0,.slice none 0 0,.int .i64 0] 63)=cw at *
 have aq:=(Below.refl cw.heap.size cw).alloc (aC _) (.cells #[.slice none 0 0,.slice none 0 0,.int .i64 op,.int .i64 val,.slice ta tl tc,.int .i64 tn] 63)
 replace B1:=h! (B1.out.later aq)
 replace B2:=h! (B2.out.later aq)
 replace HW:=h! (HW.out.trans (aq.mono HW.out.size))
 clear aq
 have B3:=h! (Box.new cw #[.slice none 0 0,.slice none 0 0,.int .i64 op,.int .i64 val,.slice ta tl tc,.int .i64 tn] 63)
 rw [co] at B3
 clear co
 generalize cw.alloc (.cells #[.slice none 0 0,.slice none 0 0,.int .i64 op,.int .i64 val,.slice ta tl tc,.int .i64 tn] 63)=wv at *
 obtain ⟨ag,ai,aj⟩:=B1.out
 obtain ⟨ah,ak,am⟩:=B2.out
 obtain ⟨ae,al,an⟩:=B3.out
 go_wp2_with fail
 refine (sK (fa.out.below HW.out)).mono ?_
 rintro e w2 ⟨es,ST,rfl,hI,hF,hb⟩
 obtain ⟨ax,ay,rfl⟩:=hI.ints.form
 rw [<-ex.out] at hI ⊢
 have ad:Hid (Holds [w.heap.size,w.heap.size+1,w.heap.size+1+1] (w.heap.size+3) w2 ST (fun W=>eR W ST (.slice ax tl ay) x.term.to)):=h! (((gF hI hF).from (by have:=B3.out.lt;omega)).low (by simp))
 clear hI hF
 clear ag ai aj ah ak am ae al an
 replace B1:=h! (B1.out.later hb)
 replace B2:=h! (B2.out.later hb)
 replace B3:=h! (B3.out.later hb)
 replace HW:=h! (HW.out.trans (hb.mono HW.out.size))
 clear hb
 obtain ⟨ag,ai,aj⟩:=B1.out
 obtain ⟨ah,ak,am⟩:=B2.out
 obtain ⟨ae,al,an⟩:=B3.out
 go_upto_region 3 with (fail)
 clear ag ai aj ah ak am ae al an
 have ao:=(Only.set w2 (w.heap.size+1+1) 4 (.slice ax tl ay))
 replace B1:=h! (B1.out.only ao (by first | assumption | (simp;done) | omega))
 replace B2:=h! (B2.out.only ao (by first | assumption | (simp;done) | omega))
 replace ad:=h! (ad.out.other (p:=⟨w.heap.size+1+1,4,none⟩) (.slice ax tl ay) (by simp))
 replace HW:=h! (ao.2.2 HW.out (by first | assumption | omega | (have:=HW.out.size;omega) | (simp;done) | (simp;omega)))
 replace B3:=h! (Box.to (A':=#[.slice none 0 0,.slice none 0 0,.int .i64 op,.int .i64 val,(.slice ax tl ay),.int .i64 tn]) (B3.out.set 4 (.slice ax tl ay)) (by first | rfl | simp))
 clear ao
 generalize (w2.setCell ⟨w.heap.size+1+1,4,none⟩ (.slice ax tl ay))=w3 at *
 obtain ⟨ag,ai,aj⟩:=B1.out
 obtain ⟨ah,ak,am⟩:=B2.out
 obtain ⟨ae,al,an⟩:=B3.out
 go_wp2_with fail
 go_loopw [20] (fun i wr => ∃ (j:Nat) (vj:Value) (SP:Foot),j <= pl/\i = .int .i64 j/\Below w.heap.size w wr/\Box wr w.heap.size #[.slice ap pl cp,.slice ac cl cc,.int .i64 op,.int .i64 val,.slice ta tl tc,.int .i64 tn]/\Box wr (w.heap.size+1) #[.slice none 0 0,.slice none 0 0,.int .i64 0,.int .i64 0,.slice none 0 0,.int .i64 0]/\Box wr (w.heap.size+1+1) #[vj,.slice none 0 0,.int .i64 op,.int .i64 val,.slice ax tl ay,.int .i64 tn] /\
   Holds [w.heap.size,w.heap.size+1,w.heap.size+1+1] (w.heap.size+3) wr ST (fun W=>eR W ST (.slice ax tl ay) x.term.to)/\Holds [w.heap.size,w.heap.size+1,w.heap.size+1+1] (w.heap.size+3) wr SP (fun W=>fV W SP vj (x.phis.take j))/\SP.off ST/\(∃ a c,vj = .slice a j c)) (fun i _=>pl - (intOf i).toNat)
 case atStart=>exact ⟨0,.slice none 0 0,Foot.none,aH _,rfl,HW.out,B1.out,B2.out,B3.out,ad.out,⟨OSl.nil none,fun _ _ h hk=>h.keep OPhi.nice hk,fun k h=>h.elim,fun k h=>h.elim,fun k h=>h.elim⟩,fun k h=>h.elim,_,_,rfl⟩
 obtain ⟨j,vj,SP,hj,rfl,hW,h1,h2,h3,h4,h5,h6,av,cv,rfl⟩:=hrel
 clear ag ai aj ah ak am ae al an
 replace HW:=h! hW
 replace B1:=h! h1
 replace B2:=h! h2
 replace B3:=h! h3
 replace ad:=h! h4
 have ar:=h! h5
 have ci:=h! h6
 clear hW h1 h2 h3 h4 h5 h6
 generalize wr=w4 at *
 obtain ⟨ag,ai,aj⟩:=B1.out
 obtain ⟨ah,ak,am⟩:=B2.out
 obtain ⟨ae,al,an⟩:=B3.out
 by_cases hlt:j < pl
 ·obtain ⟨rfl,ep⟩:=ez.out (by omega)
  obtain ⟨p,bj⟩ : ∃ p,x.phis[j]? = some p:=⟨_,aB (by have:=dh.out;omega)⟩
  obtain ⟨af,cy,cf,de,hP⟩:=eb.out j p bj
  have cL:=h! hP.src
  have cz:=h! hP.vals
  have az:Hid (In64 p.id/\In64 p.typ):=h! ⟨hP.id64,hP.typ64⟩
  obtain ⟨m0,m1,m2,m3,r1,r2,r3,r4⟩:=hP.below HW.out ep
  have db:=h! (pX x.phis j p bj)
  clear bj hP r1 r2 r3 r4
  have bf:=ar.out.lt
  have bd:Hid (∀ k,ST k -> k < w4.heap.size):=h! ad.out.lt
  have et:w.heap.size+3 <= w4.heap.size:=by omega
  replace ad:=h! (ad.out.more (aC w4.heap.size))
  replace ar:=h! (ar.out.more (aC w4.heap.size))
  go_upto_region 6 with (fail)
  have ce:w4.heap.size ≠ w.heap.size:=fun e=>by have:=ag;omega
  have nB1BP:w.heap.size ≠ w4.heap.size:=fun e=>ce e.symm
  have bO:w4.heap.size ≠ w.heap.size+1:=fun e=>by have:=ah;omega
  have nB2BP:w.heap.size+1 ≠ w4.heap.size:=fun e=>bO e.symm
  have cn:w4.heap.size ≠ w.heap.size+1+1:=fun e=>by have:=ae;omega
  have nB3BP:w.heap.size+1+1 ≠ w4.heap.size:=fun e=>cn e.symm
  clear ag ai aj ah ak am ae al an
  have aq:=(Below.refl w4.heap.size w4).alloc (aC _) (.cells #[.int .i64 p.id,.int .i64 p.typ,.slice af p.src.length cf,.slice cy p.vals.length de] 78)
  replace B1:=h! (B1.out.later aq)
  replace B2:=h! (B2.out.later aq)
  replace B3:=h! (B3.out.later aq)
  replace ad:=h! (ad.out.later aq)
  replace ar:=h! (ar.out.later aq)
  replace HW:=h! (HW.out.trans (aq.mono HW.out.size))
  clear aq
  have BP:=h! (Box.new w4 #[.int .i64 p.id,.int .i64 p.typ,.slice af p.src.length cf,.slice cy p.vals.length de] 78)
  generalize w4.alloc (.cells #[.int .i64 p.id,.int .i64 p.typ,.slice af p.src.length cf,.slice cy p.vals.length de] 78)=w5 at *
  obtain ⟨ag,ai,aj⟩:=B1.out
  obtain ⟨ah,ak,am⟩:=B2.out
  obtain ⟨ae,al,an⟩:=B3.out
  obtain ⟨bw,cb,cd⟩:=BP.out
  have bm:Hid (w4.heap.size < w5.heap.size):=h! BP.out.lt
  have cs:Hid (∀ k,SP k -> k < w4.heap.size):=h! bf
  have be:Hid (w.heap.size+3 <= w5.heap.size):=h! (by have:=B3.out.lt;have:=BP.out.lt;omega)
  clear m0 m1 m2 m3
  refine Four.wp_region_grow (XF:=(fun _=>Foot.none)) (I:=(fun _=>True)) 7 (fun ν kz=>match kz with | 2=>.holds (fun u w' => ∃ S,Holds [] w5.heap.size w' S (fun W=>eR W S u p.src)/\True) | 5=>.holds (fun u w' => ∃ S S2,Holds [] w5.heap.size w' S (fun W=>eR W S u p.vals)/\Holds [] w5.heap.size w' S2 (fun W=>eR W S2 (ν 2) p.src)/\S.off S2) | _=>.plain) (by kernel_rfl) (by kernel_rfl) ?_ ?_ (fun _ _ h=>h.elim) (fun _ _ _ _=>trivial) trivial ?_ (fun ν => ?_)
  ·(intro ν k;(try dsimp only);split <;> first | exact True.intro | (intro u w1 w2 hu hb;first | (obtain ⟨S,S2,h1,h2,h3⟩:=hu;exact ⟨S,S2,h1.off hb (fun _ _ ⟨_,_,h⟩=>h.elim),h2.off hb (fun _ _ ⟨_,_,h⟩=>h.elim),h3⟩) | (obtain ⟨S,h1,h2⟩:=hu;exact ⟨S,h1.off hb (fun _ _ ⟨_,_,h⟩=>h.elim),h2⟩)))
  ·(intro ν ν' k h;first | rfl | ((try dsimp only);split <;> first | rfl | (rw [h 2 (by kernel_rfl)])))
  ·(intro ν j B mk A h;(try dsimp only at h);split at h <;> first | (cases h;exact Nat.le_refl _) | cases h)
  simp only [aP,aU,aS,aX]
  iterate 2 (refine Four.Grow.val (v := ?_) rfl rfl (fun wg hbg hdg => ?_) ?_;rotate_left;(focus ((obtain ⟨dy,ee,dz⟩:=B1.out.off hbg.off (fun ⟨_,h⟩=>h.elim));(obtain ⟨eh,dr,dw⟩:=B2.out.off hbg.off (fun ⟨_,h⟩=>h.elim));(obtain ⟨ej,eg,ek⟩:=B3.out.off hbg.off (fun ⟨_,h⟩=>h.elim));(obtain ⟨dp,ec,ei⟩:=BP.out.off hbg.off (fun ⟨_,h⟩=>h.elim));clear hbg hdg;first | (go_simp;done) | (go_simp;with_reducible rfl)));simp only [Act.put,aA,aE,aF])
  refine Four.Grow.call (f := ?_) (args := ?_) rfl (fun wg => ?_) (fun wg hbg hdg => ?_) ?_
  rotate_left 2
  focus (first | (go_simp;done) | (go_simp;refine And.intro ?_ ?_ <;> with_reducible rfl) | (go_simp;with_reducible rfl))
  focus (exact (sK (cL.out.below (HW.out.trans ((pre0 hbg).mono HW.out.size)))).mono (fun e w2 ⟨u,S,he,hI,hF,hw⟩=>⟨u,he,⟨S,(gF hI hF).from hbg.1.size,trivial⟩,hw⟩))
  simp only [Act.put,Known.val,aA,aE,aF]
  iterate 2 (refine Four.Grow.val (v := ?_) rfl rfl (fun wg hbg hdg => ?_) ?_;rotate_left;(focus ((obtain ⟨dy,ee,dz⟩:=B1.out.off hbg.off (fun ⟨_,h⟩=>h.elim));(obtain ⟨eh,dr,dw⟩:=B2.out.off hbg.off (fun ⟨_,h⟩=>h.elim));(obtain ⟨ej,eg,ek⟩:=B3.out.off hbg.off (fun ⟨_,h⟩=>h.elim));(obtain ⟨dp,ec,ei⟩:=BP.out.off hbg.off (fun ⟨_,h⟩=>h.elim));clear hbg hdg;first | (go_simp;done) | (go_simp;with_reducible rfl)));simp only [Act.put,aA,aE,aF])
  refine Four.Grow.call (f := ?_) (args := ?_) rfl (fun wg => ?_) (fun wg hbg hdg => ?_) ?_
  rotate_left 2
  focus (first | (go_simp;done) | (go_simp;refine And.intro ?_ ?_ <;> with_reducible rfl) | (go_simp;with_reducible rfl))
  focus (have h9:=hdg 2 (by kernel_rfl);obtain ⟨S2,k1, -⟩:=h9;exact (sK (cz.out.below (HW.out.trans ((pre0 hbg).mono HW.out.size)))).mono (fun e w2 ⟨u,S,he,hI,hF,hw⟩=>⟨u,he,⟨S,S2,(gF hI hF).from hbg.1.size,k1.later hw,hF.off k1.lt⟩,hw⟩))
  simp only [Act.put,Known.val,aA,aE,aF]
  refine Four.Grow.val (v := ?_) rfl rfl (fun wg hbg hdg => ?_) ?_
  rotate_left
  focus ((obtain ⟨dy,ee,dz⟩:=B1.out.off hbg.off (fun ⟨_,h⟩=>h.elim));(obtain ⟨eh,dr,dw⟩:=B2.out.off hbg.off (fun ⟨_,h⟩=>h.elim));(obtain ⟨ej,eg,ek⟩:=B3.out.off hbg.off (fun ⟨_,h⟩=>h.elim));(obtain ⟨dp,ec,ei⟩:=BP.out.off hbg.off (fun ⟨_,h⟩=>h.elim));clear hbg hdg;first | (go_simp;done) | (go_simp;with_reducible rfl))
  simp only [Act.put,aA,aE,aF]
  intro wg hb hf er
  clear er
  clear ag ai aj ah ak am ae al an bw cb cd
  replace B1:=h! (B1.out.off hb.1 (fun ⟨_,h⟩=>h.elim))
  replace B2:=h! (B2.out.off hb.1 (fun ⟨_,h⟩=>h.elim))
  replace B3:=h! (B3.out.off hb.1 (fun ⟨_,h⟩=>h.elim))
  replace BP:=h! (BP.out.off hb.1 (fun ⟨_,h⟩=>h.elim))
  replace ad:=h! (ad.out.off hb.1 (fun _ _ ⟨_,h⟩=>h.elim))
  replace ar:=h! (ar.out.off hb.1 (fun _ _ ⟨_,h⟩=>h.elim))
  replace HW:=h! (HW.out.trans (hb.1.below HW.out.size (fun _ _ ⟨_,h⟩=>h.elim)))
  obtain ⟨ag,ai,aj⟩:=B1.out
  obtain ⟨ah,ak,am⟩:=B2.out
  obtain ⟨ae,al,an⟩:=B3.out
  obtain ⟨bw,cb,cd⟩:=BP.out
  simp only [bH,Nat.reduceAdd]
  have h5:∃ S S2,Holds [] w5.heap.size wg S (fun W=>eR W S (ν 5) p.vals)/\Holds [] w5.heap.size wg S2 (fun W=>eR W S2 (ν 2) p.src)/\S.off S2:=hf 5 (by omega)
  obtain ⟨S5,S2,k5,k2,k3⟩:=h5
  obtain ⟨a2,c2,e2⟩:=k2.now.ints.form
  obtain ⟨a5,c5,e5⟩:=k5.now.ints.form
  simp only [e2,e5] at *
  clear hf e2 e5
  have ef:w4.heap.size < w5.heap.size:=bm.out
  have bh:=h! (k5.low (bs':=[w4.heap.size]) (by simp;exact ef))
  have bg:=h! (k2.low (bs':=[w4.heap.size]) (by simp;exact ef))
  have em:=h! k3
  clear k5 k2 k3 hb
  go_upto_region 7 with (fail)
  clear ag ai aj ah ak am ae al an bw cb cd
  have ao:=((Only.set wg (w4.heap.size) 2 (.slice a2 p.src.length c2)).put 3 (.slice a5 p.vals.length c5))
  replace B1:=h! (B1.out.only ao (by first | assumption | (simp;done) | omega))
  replace B2:=h! (B2.out.only ao (by first | assumption | (simp;done) | omega))
  replace B3:=h! (B3.out.only ao (by first | assumption | (simp;done) | omega))
  replace ad:=h! ((ad.out.other (p:=⟨w4.heap.size,2,none⟩) (.slice a2 p.src.length c2) (by simp)).other (p:=⟨w4.heap.size,3,none⟩) (.slice a5 p.vals.length c5) (by simp))
  replace ar:=h! ((ar.out.other (p:=⟨w4.heap.size,2,none⟩) (.slice a2 p.src.length c2) (by simp)).other (p:=⟨w4.heap.size,3,none⟩) (.slice a5 p.vals.length c5) (by simp))
  replace bh:=h! ((bh.out.other (p:=⟨w4.heap.size,2,none⟩) (.slice a2 p.src.length c2) (by simp)).other (p:=⟨w4.heap.size,3,none⟩) (.slice a5 p.vals.length c5) (by simp))
  replace bg:=h! ((bg.out.other (p:=⟨w4.heap.size,2,none⟩) (.slice a2 p.src.length c2) (by simp)).other (p:=⟨w4.heap.size,3,none⟩) (.slice a5 p.vals.length c5) (by simp))
  replace HW:=h! (ao.2.2 HW.out (by first | assumption | omega | (have:=HW.out.size;omega) | (simp;done) | (simp;omega)))
  replace BP:=h! (Box.to (A':=#[.int .i64 p.id,.int .i64 p.typ,(.slice a2 p.src.length c2),(.slice a5 p.vals.length c5)]) ((BP.out.set 2 (.slice a2 p.src.length c2)).set 3 (.slice a5 p.vals.length c5)) (by first | rfl | simp))
  clear ao
  generalize ((wg.setCell ⟨w4.heap.size,2,none⟩ (.slice a2 p.src.length c2)).setCell ⟨w4.heap.size,3,none⟩ (.slice a5 p.vals.length c5))=w6 at *
  obtain ⟨ag,ai,aj⟩:=B1.out
  obtain ⟨ah,ak,am⟩:=B2.out
  obtain ⟨ae,al,an⟩:=B3.out
  obtain ⟨bw,cb,cd⟩:=BP.out
  have bi:Hid (Holds [] (w.heap.size+3) w6 (S2.or S5) (fun W=>OPhi W (S2.or S5) [.int .i64 p.id,.int .i64 p.typ,.slice a2 p.src.length c2,.slice a5 p.vals.length c5] p)):=h!
   (kM OPhi.nice ⟨⟨_,_,S2,S5,rfl,bg.out.now,bh.out.now,em.out.symm,fun k h=>.inl h,fun k h=>.inr h⟩,fun k hk=>hk.elim (bg.out.lt k) (bh.out.lt k),az.out.1,az.out.2⟩ (fun k hk=>by have:=be.out;rcases hk with hk | hk;exact bA be.out (bg.out.base k hk);exact bA be.out (bh.out.base k hk)))
  have bq:Hid ((S2.or S5).off SP):=h! (fun k h1 h2=>by
   have h3:=cs.out k h2
   rcases h1 with h1 | h1
   ·have:=bg.out.base k h1;have:=bm.out;omega
   have:=bh.out.base k h1;have:=bm.out;omega)
  replace ar:=h! (ar.out.less (bs':=[w.heap.size,w.heap.size+1,w.heap.size+1+1]) (fun b hb=>bX _ hb))
  replace ad:=h! (ad.out.less (bs':=[w.heap.size,w.heap.size+1,w.heap.size+1+1]) (fun b hb=>bX _ hb))
  have dk:Hid ((x.phis.take j).length=j):=h! (by rw [aV];have:=dh.out;omega)
  have dl:w.heap.size+3 <= w6.heap.size:=by have:=ae;omega
  have dq:Hid ((S2.or S5).off ST):=h! (fun k h1 h2=>by
   have h3:=bd.out k h2
   rcases h1 with h1 | h1
   ·have:=bg.out.base k h1;have:=bm.out;omega
   have:=bh.out.base k h1;have:=bm.out;omega)
  have bb:=h! ad.out.lt
  clear bg bh em bm be bd
  go_upto_region 8 with (at_builtin;refine lT OPhi.nice rfl _ _ 58 78 rfl aGJ rfl rfl dk.out (ar.out.alloc _) (Box.new _ _ _) rfl (bi.out.alloc _).now bq.out bi.out.base (by intro b hb;simp at hb;omega) (by simp;omega) (by simp [Value.oneCell']) (by omega) (by omega) ?_;intro v2 w7 ds q1 q2 q3 q4;obtain ⟨g2,c2,rfl⟩:=q4;have dj:=(B3.out.alloc _).off q3 (fun h=>ar.out.free _ h (by simp));obtain ⟨lx,cx,fx⟩:=dj)
  clear lx cx fx
  clear ag ai aj ah ak am ae al an bw cb cd
  replace B1:=h! ((B1.out.alloc _).off q3 (fun h=>ar.out.free _ h (by simp)))
  replace B2:=h! ((B2.out.alloc _).off q3 (fun h=>ar.out.free _ h (by simp)))
  replace B3:=h! ((B3.out.alloc _).off q3 (fun h=>ar.out.free _ h (by simp)))
  replace ad:=h! ((ad.out.alloc _).off q3 (fun k h1 h2=>ci.out k h2 h1))
  replace HW:=h! ((HW.out.alloc HW.out.size _).trans (q3.below (by simp;have:=HW.out.size;omega) (fun k _ hk=>by have:=ar.out.base k hk;omega)))
  replace ci:Hid (ds.off ST):=h! (fun k h1 h2=>by
   rcases q2 k h1 with h3 | h3 | h3
   ·exact ci.out k h3 h2
   ·exact dq.out k h3 h2
   have:=bb.out k h2;simp at h3;omega)
  clear ar BP
  have ar:=h! q1
  clear q1 q2 q3 dl bi bq bb dq cs
  obtain ⟨ag,ai,aj⟩:=B1.out
  obtain ⟨ah,ak,am⟩:=B2.out
  obtain ⟨ae,al,an⟩:=B3.out
  clear ag ai aj ah ak am ae al an
  have ao:=(Only.set w7 (w.heap.size+1+1) 0 (.slice (some ⟨g2,0,none⟩) (j+1) c2))
  replace B1:=h! (B1.out.only ao (by first | assumption | (simp;done) | omega))
  replace B2:=h! (B2.out.only ao (by first | assumption | (simp;done) | omega))
  replace ad:=h! (ad.out.other (p:=⟨w.heap.size+1+1,0,none⟩) (.slice (some ⟨g2,0,none⟩) (j+1) c2) (by simp))
  replace ar:=h! (ar.out.other (p:=⟨w.heap.size+1+1,0,none⟩) (.slice (some ⟨g2,0,none⟩) (j+1) c2) (by simp))
  replace HW:=h! (ao.2.2 HW.out (by first | assumption | omega | (have:=HW.out.size;omega) | (simp;done) | (simp;omega)))
  replace B3:=h! (Box.to (A':=#[(.slice (some ⟨g2,0,none⟩) (j+1) c2),.slice none 0 0,.int .i64 op,.int .i64 val,.slice ax tl ay,.int .i64 tn]) (B3.out.set 0 (.slice (some ⟨g2,0,none⟩) (j+1) c2)) (by first | rfl | simp))
  clear ao
  generalize (w7.setCell ⟨w.heap.size+1+1,0,none⟩ (.slice (some ⟨g2,0,none⟩) (j+1) c2))=w8 at *
  obtain ⟨ag,ai,aj⟩:=B1.out
  obtain ⟨ah,ak,am⟩:=B2.out
  obtain ⟨ae,al,an⟩:=B3.out
  rw [<-db.out] at ar
  go_wp2
  go_roundw
  case rel=>exact ⟨j+1,.slice (some ⟨g2,0,none⟩) (j+1) c2,ds,hlt,by go_num,HW.out,B1.out,B2.out,B3.out,ad.out,ar.out,ci.out,_,_,rfl⟩
  simp [intOf];omega
 have cM:j=pl:=by omega
 have ab:Hid (Holds [w.heap.size,w.heap.size+1,w.heap.size+1+1] (w.heap.size+3) w4 SP (fun W=>fV W SP (.slice av pl cv) x.phis)):=h! (by
  have h9:=ar.out
  rw [aJ (by have:=dh.out;omega),cM] at h9
  exact h9)
 rw [cM] at B3
 clear ar eb cM
 clear ag ai aj ah ak am ae al an
 obtain ⟨ag,ai,aj⟩:=B1.out
 obtain ⟨ah,ak,am⟩:=B2.out
 obtain ⟨ae,al,an⟩:=B3.out
 go_wp2_with fail
 go_loopw [42] (fun i wr => ∃ (j:Nat) (uj:Value) (SI:Foot),j <= cl/\i = .int .i64 j/\Below w.heap.size w wr/\Box wr w.heap.size #[.slice ap pl cp,.slice ac cl cc,.int .i64 op,.int .i64 val,.slice ta tl tc,.int .i64 tn]/\Box wr (w.heap.size+1) #[.slice none 0 0,.slice none 0 0,.int .i64 0,.int .i64 0,.slice none 0 0,.int .i64 0]/\Box wr (w.heap.size+1+1) #[.slice av pl cv,uj,.int .i64 op,.int .i64 val,.slice ax tl ay,.int .i64 tn] /\
   Holds [w.heap.size,w.heap.size+1,w.heap.size+1+1] (w.heap.size+3) wr ST (fun W=>eR W ST (.slice ax tl ay) x.term.to)/\Holds [w.heap.size,w.heap.size+1,w.heap.size+1+1] (w.heap.size+3) wr SP (fun W=>fV W SP (.slice av pl cv) x.phis) /\
   Holds [w.heap.size,w.heap.size+1,w.heap.size+1+1] (w.heap.size+3) wr SI (fun W=>gX W SI uj (x.code.take j))/\SI.off ST/\SI.off SP/\(∃ a c,uj = .slice a j c)) (fun i _=>cl - (intOf i).toNat)
 case atStart=>exact ⟨0,.slice none 0 0,Foot.none,aH _,rfl,HW.out,B1.out,B2.out,B3.out,ad.out,ab.out,⟨OSl.nil none,fun _ _ h hk=>h.keep OInstr.nice hk,fun k h=>h.elim,fun k h=>h.elim,fun k h=>h.elim⟩,fun k h=>h.elim,fun k h=>h.elim,_,_,rfl⟩
 obtain ⟨k,uj,SI,hj,rfl,hW,h1,h2,h3,h4,h5,h6,h7,h8,au,cu,rfl⟩:=hrel
 clear ag ai aj ah ak am ae al an
 replace HW:=h! hW
 replace B1:=h! h1
 replace B2:=h! h2
 replace B3:=h! h3
 replace ad:=h! h4
 replace ab:=h! h5
 have aw:=h! h6
 have bt:=h! h7
 have bn:=h! h8
 clear hW h1 h2 h3 h4 h5 h6 h7 h8
 generalize wr=w5 at *
 obtain ⟨ag,ai,aj⟩:=B1.out
 obtain ⟨ah,ak,am⟩:=B2.out
 obtain ⟨ae,al,an⟩:=B3.out
 by_cases hlt2:k < cl
 ·obtain ⟨rfl,ev⟩:=en.out (by omega)
  obtain ⟨y,bj⟩ : ∃ y,x.code[k]? = some y:=⟨_,aB (by have:=dn.out;omega)⟩
  obtain ⟨aa,ca,hP⟩:=ea.out k y bj
  have dd:=h! hP.args
  have az:Hid (In64 y.op/\In64 y.id/\In64 y.n):=h! ⟨hP.op64,hP.id64,hP.n64⟩
  obtain ⟨m0,m1,m2,m3,r1,r2,r3,r4⟩:=hP.below HW.out ev
  have db:=h! (pX x.code k y bj)
  clear bj hP r1 r2 r3 r4
  have bf:Hid (∀ q,SI q -> q < w5.heap.size):=h! aw.out.lt
  have bo:Hid (∀ q,SP q -> q < w5.heap.size):=h! ab.out.lt
  have bd:Hid (∀ q,ST q -> q < w5.heap.size):=h! ad.out.lt
  have et:w.heap.size+3 <= w5.heap.size:=by omega
  replace ad:=h! (ad.out.more (aC w5.heap.size))
  replace ab:=h! (ab.out.more (aC w5.heap.size))
  replace aw:=h! (aw.out.more (aC w5.heap.size))
  go_upto_region 12 with (fail)
  have bz:w5.heap.size ≠ w.heap.size:=fun e=>by have:=ag;omega
  have nB1BI:w.heap.size ≠ w5.heap.size:=fun e=>bz e.symm
  have ch:w5.heap.size ≠ w.heap.size+1:=fun e=>by have:=ah;omega
  have nB2BI:w.heap.size+1 ≠ w5.heap.size:=fun e=>ch e.symm
  have cj:w5.heap.size ≠ w.heap.size+1+1:=fun e=>by have:=ae;omega
  have nB3BI:w.heap.size+1+1 ≠ w5.heap.size:=fun e=>cj e.symm
  clear ag ai aj ah ak am ae al an
  have aq:=(Below.refl w5.heap.size w5).alloc (aC _) (.cells #[.int .i64 y.op,.int .i64 y.id,.slice aa y.args.length ca,.int .i64 y.n] 82)
  replace B1:=h! (B1.out.later aq)
  replace B2:=h! (B2.out.later aq)
  replace B3:=h! (B3.out.later aq)
  replace ad:=h! (ad.out.later aq)
  replace ab:=h! (ab.out.later aq)
  replace aw:=h! (aw.out.later aq)
  replace HW:=h! (HW.out.trans (aq.mono HW.out.size))
  clear aq
  have BI:=h! (Box.new w5 #[.int .i64 y.op,.int .i64 y.id,.slice aa y.args.length ca,.int .i64 y.n] 82)
  generalize w5.alloc (.cells #[.int .i64 y.op,.int .i64 y.id,.slice aa y.args.length ca,.int .i64 y.n] 82)=w6 at *
  obtain ⟨ag,ai,aj⟩:=B1.out
  obtain ⟨ah,ak,am⟩:=B2.out
  obtain ⟨ae,al,an⟩:=B3.out
  obtain ⟨cq,bv,bs⟩:=BI.out
  have cF:Hid (w5.heap.size < w6.heap.size):=h! BI.out.lt
  clear m0 m1 m2 m3
  go_wp2_with fail
  refine (sK (dd.out.below HW.out)).mono ?_
  rintro e w7 ⟨es,SA,rfl,hI,hF,hb⟩
  obtain ⟨a2,c2,rfl⟩:=hI.ints.form
  have ct:Hid (Holds [w5.heap.size] w6.heap.size w7 SA (fun W=>eR W SA (.slice a2 y.args.length c2) y.args)):=h! ((gF hI hF).low (by simp;exact cF.out))
  clear hI hF
  clear ag ai aj ah ak am ae al an cq bv bs
  replace B1:=h! (B1.out.later hb)
  replace B2:=h! (B2.out.later hb)
  replace B3:=h! (B3.out.later hb)
  replace BI:=h! (BI.out.later hb)
  replace ad:=h! (ad.out.later hb)
  replace ab:=h! (ab.out.later hb)
  replace aw:=h! (aw.out.later hb)
  replace HW:=h! (HW.out.trans (hb.mono HW.out.size))
  clear hb
  obtain ⟨ag,ai,aj⟩:=B1.out
  obtain ⟨ah,ak,am⟩:=B2.out
  obtain ⟨ae,al,an⟩:=B3.out
  obtain ⟨cq,bv,bs⟩:=BI.out
  go_upto_region 13 with (fail)
  clear ag ai aj ah ak am ae al an cq bv bs
  have ao:=(Only.set w7 (w5.heap.size) 2 (.slice a2 y.args.length c2))
  replace B1:=h! (B1.out.only ao (by first | assumption | (simp;done) | omega))
  replace B2:=h! (B2.out.only ao (by first | assumption | (simp;done) | omega))
  replace B3:=h! (B3.out.only ao (by first | assumption | (simp;done) | omega))
  replace ad:=h! (ad.out.other (p:=⟨w5.heap.size,2,none⟩) (.slice a2 y.args.length c2) (by simp))
  replace ab:=h! (ab.out.other (p:=⟨w5.heap.size,2,none⟩) (.slice a2 y.args.length c2) (by simp))
  replace aw:=h! (aw.out.other (p:=⟨w5.heap.size,2,none⟩) (.slice a2 y.args.length c2) (by simp))
  replace ct:=h! (ct.out.other (p:=⟨w5.heap.size,2,none⟩) (.slice a2 y.args.length c2) (by simp))
  replace HW:=h! (ao.2.2 HW.out (by first | assumption | omega | (have:=HW.out.size;omega) | (simp;done) | (simp;omega)))
  replace BI:=h! (Box.to (A':=#[.int .i64 y.op,.int .i64 y.id,(.slice a2 y.args.length c2),.int .i64 y.n]) (BI.out.set 2 (.slice a2 y.args.length c2)) (by first | rfl | simp))
  clear ao
  generalize (w7.setCell ⟨w5.heap.size,2,none⟩ (.slice a2 y.args.length c2))=w8 at *
  obtain ⟨ag,ai,aj⟩:=B1.out
  obtain ⟨ah,ak,am⟩:=B2.out
  obtain ⟨ae,al,an⟩:=B3.out
  obtain ⟨cq,bv,bs⟩:=BI.out
  have ck:Hid (∀ q,SA q -> w5.heap.size < q):=h! (fun q hq=>by have:=ct.out.base q hq;have:=cF.out;omega)
  have bi:Hid (Holds [] (w.heap.size+3) w8 SA (fun W=>OInstr W SA [.int .i64 y.op,.int .i64 y.id,.slice a2 y.args.length c2,.int .i64 y.n] y)):=h!
   (kM OInstr.nice ⟨⟨_,rfl,ct.out.now⟩,az.out.1,az.out.2.1,az.out.2.2⟩ (fun q hq=>by have:=ck.out q hq;omega))
  have bq:Hid (SA.off SI):=h! (fun q h1 h2=>by have:=bf.out q h2;have:=ck.out q h1;omega)
  have dt:Hid (SA.off SP):=h! (fun q h1 h2=>by have:=bo.out q h2;have:=ck.out q h1;omega)
  have dv:Hid (SA.off ST):=h! (fun q h1 h2=>by have:=bd.out q h2;have:=ck.out q h1;omega)
  replace ab:=h! (ab.out.less (bs':=[w.heap.size,w.heap.size+1,w.heap.size+1+1]) (fun b hb=>bX _ hb))
  replace aw:=h! (aw.out.less (bs':=[w.heap.size,w.heap.size+1,w.heap.size+1+1]) (fun b hb=>bX _ hb))
  replace ad:=h! (ad.out.less (bs':=[w.heap.size,w.heap.size+1,w.heap.size+1+1]) (fun b hb=>bX _ hb))
  have dk:Hid ((x.code.take k).length=k):=h! (by rw [aV];have:=dn.out;omega)
  have dl:w.heap.size+3 <= w8.heap.size:=by have:=ae;omega
  have bb:=h! ad.out.lt
  have cm:=h! ab.out.lt
  clear ct cF ck
  go_upto_region 14 with (at_builtin;refine lT OInstr.nice rfl _ _ 59 82 rfl aEY rfl rfl dk.out (aw.out.alloc _) (Box.new _ _ _) rfl (bi.out.alloc _).now bq.out bi.out.base (by intro b hb;simp at hb;omega) (by simp;omega) (by simp [Value.oneCell']) (by omega) (by omega) ?_;intro v2 w9 dc q1 q2 q3 q4;obtain ⟨g3,c3,rfl⟩:=q4;have dj:=(B3.out.alloc _).off q3 (fun h=>aw.out.free _ h (by simp));obtain ⟨lx,cx,fx⟩:=dj)
  clear lx cx fx
  clear ag ai aj ah ak am ae al an cq bv bs
  replace B1:=h! ((B1.out.alloc _).off q3 (fun h=>aw.out.free _ h (by simp)))
  replace B2:=h! ((B2.out.alloc _).off q3 (fun h=>aw.out.free _ h (by simp)))
  replace B3:=h! ((B3.out.alloc _).off q3 (fun h=>aw.out.free _ h (by simp)))
  replace ad:=h! ((ad.out.alloc _).off q3 (fun k h1 h2=>bt.out k h2 h1))
  replace ab:=h! ((ab.out.alloc _).off q3 (fun k h1 h2=>bn.out k h2 h1))
  replace HW:=h! ((HW.out.alloc HW.out.size _).trans (q3.below (by simp;have:=HW.out.size;omega) (fun k _ hk=>by have:=aw.out.base k hk;omega)))
  replace bt:Hid (dc.off ST):=h! (fun k h1 h2=>by
   rcases q2 k h1 with h3 | h3 | h3
   ·exact bt.out k h3 h2
   ·exact dv.out k h3 h2
   have:=bb.out k h2;simp at h3;omega)
  replace bn:Hid (dc.off SP):=h! (fun k h1 h2=>by
   rcases q2 k h1 with h3 | h3 | h3
   ·exact bn.out k h3 h2
   ·exact dt.out k h3 h2
   have:=cm.out k h2;simp at h3;omega)
  clear aw BI
  have aw:=h! q1
  clear q1 q2 q3 dl bi bq bb cm dv dt bf bo bd
  obtain ⟨ag,ai,aj⟩:=B1.out
  obtain ⟨ah,ak,am⟩:=B2.out
  obtain ⟨ae,al,an⟩:=B3.out
  clear ag ai aj ah ak am ae al an
  have ao:=(Only.set w9 (w.heap.size+1+1) 1 (.slice (some ⟨g3,0,none⟩) (k+1) c3))
  replace B1:=h! (B1.out.only ao (by first | assumption | (simp;done) | omega))
  replace B2:=h! (B2.out.only ao (by first | assumption | (simp;done) | omega))
  replace ad:=h! (ad.out.other (p:=⟨w.heap.size+1+1,1,none⟩) (.slice (some ⟨g3,0,none⟩) (k+1) c3) (by simp))
  replace ab:=h! (ab.out.other (p:=⟨w.heap.size+1+1,1,none⟩) (.slice (some ⟨g3,0,none⟩) (k+1) c3) (by simp))
  replace aw:=h! (aw.out.other (p:=⟨w.heap.size+1+1,1,none⟩) (.slice (some ⟨g3,0,none⟩) (k+1) c3) (by simp))
  replace HW:=h! (ao.2.2 HW.out (by first | assumption | omega | (have:=HW.out.size;omega) | (simp;done) | (simp;omega)))
  replace B3:=h! (Box.to (A':=#[.slice av pl cv,(.slice (some ⟨g3,0,none⟩) (k+1) c3),.int .i64 op,.int .i64 val,.slice ax tl ay,.int .i64 tn]) (B3.out.set 1 (.slice (some ⟨g3,0,none⟩) (k+1) c3)) (by first | rfl | simp))
  clear ao
  generalize (w9.setCell ⟨w.heap.size+1+1,1,none⟩ (.slice (some ⟨g3,0,none⟩) (k+1) c3))=w10 at *
  obtain ⟨ag,ai,aj⟩:=B1.out
  obtain ⟨ah,ak,am⟩:=B2.out
  obtain ⟨ae,al,an⟩:=B3.out
  rw [<-db.out] at aw
  go_wp2
  go_roundw
  case rel=>exact ⟨k+1,.slice (some ⟨g3,0,none⟩) (k+1) c3,dc,hlt2,by go_num,HW.out,B1.out,B2.out,B3.out,ad.out,ab.out,aw.out,bt.out,bn.out,_,_,rfl⟩
  simp [intOf];omega
 have cB:k=cl:=by omega
 have ba:Hid (Holds [w.heap.size,w.heap.size+1,w.heap.size+1+1] (w.heap.size+3) w5 SI (fun W=>gX W SI (.slice au cl cu) x.code)):=h! (by
  have h9:=aw.out
  rw [aJ (by have:=dn.out;omega),cB] at h9
  exact h9)
 rw [cB] at B3
 clear aw cB ea
 clear ag ai aj ah ak am ae al an
 obtain ⟨ag,ai,aj⟩:=B1.out
 obtain ⟨ah,ak,am⟩:=B2.out
 obtain ⟨ae,al,an⟩:=B3.out
 go_wp2
 clear ag ai aj ah ak am ae al an
 have ao:=((((((Only.set w5 (w.heap.size+1) 0 (.slice av pl cv)).put 1 (.slice au cl cu)).put 2 (.int .i64 op)).put 3 (.int .i64 val)).put 4 (.slice ax tl ay)).put 5 (.int .i64 tn))
 replace B1:=h! (B1.out.only ao (by first | assumption | (simp;done) | omega))
 replace B3:=h! (B3.out.only ao (by first | assumption | (simp;done) | omega))
 replace ad:=h! ((((((ad.out.other (p:=⟨w.heap.size+1,0,none⟩) (.slice av pl cv) (by simp)).other (p:=⟨w.heap.size+1,1,none⟩) (.slice au cl cu) (by simp)).other (p:=⟨w.heap.size+1,2,none⟩) (.int .i64 op) (by simp)).other (p:=⟨w.heap.size+1,3,none⟩) (.int .i64 val) (by simp)).other (p:=⟨w.heap.size+1,4,none⟩) (.slice ax tl ay) (by simp)).other (p:=⟨w.heap.size+1,5,none⟩) (.int .i64 tn) (by simp))
 replace ab:=h! ((((((ab.out.other (p:=⟨w.heap.size+1,0,none⟩) (.slice av pl cv) (by simp)).other (p:=⟨w.heap.size+1,1,none⟩) (.slice au cl cu) (by simp)).other (p:=⟨w.heap.size+1,2,none⟩) (.int .i64 op) (by simp)).other (p:=⟨w.heap.size+1,3,none⟩) (.int .i64 val) (by simp)).other (p:=⟨w.heap.size+1,4,none⟩) (.slice ax tl ay) (by simp)).other (p:=⟨w.heap.size+1,5,none⟩) (.int .i64 tn) (by simp))
 replace ba:=h! ((((((ba.out.other (p:=⟨w.heap.size+1,0,none⟩) (.slice av pl cv) (by simp)).other (p:=⟨w.heap.size+1,1,none⟩) (.slice au cl cu) (by simp)).other (p:=⟨w.heap.size+1,2,none⟩) (.int .i64 op) (by simp)).other (p:=⟨w.heap.size+1,3,none⟩) (.int .i64 val) (by simp)).other (p:=⟨w.heap.size+1,4,none⟩) (.slice ax tl ay) (by simp)).other (p:=⟨w.heap.size+1,5,none⟩) (.int .i64 tn) (by simp))
 replace HW:=h! (ao.2.2 HW.out (by first | assumption | omega | (have:=HW.out.size;omega) | (simp;done) | (simp;omega)))
 replace B2:=h! (Box.to (A':=#[(.slice av pl cv),(.slice au cl cu),(.int .i64 op),(.int .i64 val),(.slice ax tl ay),(.int .i64 tn)]) ((((((B2.out.set 0 (.slice av pl cv)).set 1 (.slice au cl cu)).set 2 (.int .i64 op)).set 3 (.int .i64 val)).set 4 (.slice ax tl ay)).set 5 (.int .i64 tn)) (by first | rfl | simp))
 clear ao
 generalize ((((((w5.setCell ⟨w.heap.size+1,0,none⟩ (.slice av pl cv)).setCell ⟨w.heap.size+1,1,none⟩ (.slice au cl cu)).setCell ⟨w.heap.size+1,2,none⟩ (.int .i64 op)).setCell ⟨w.heap.size+1,3,none⟩ (.int .i64 val)).setCell ⟨w.heap.size+1,4,none⟩ (.slice ax tl ay)).setCell ⟨w.heap.size+1,5,none⟩ (.int .i64 tn))=w6 at *
 obtain ⟨ag,ai,aj⟩:=B1.out
 obtain ⟨ah,ak,am⟩:=B2.out
 obtain ⟨ae,al,an⟩:=B3.out
 refine bodyPost_ret (v:=.agg #[.slice av pl cv,.slice au cl cu,.int .i64 op,.int .i64 val,.slice ax tl ay,.int .i64 tn]) (by simp [results,Tryz.results91,go_sem, *]) rfl ⟨_,_,_,fun q=>(SP q \/ SI q) \/ ST q,rfl,⟨⟨_,_,_,SP,SI,ST,rfl,ab.out.now,ba.out.now, ?_,fun k h1 h2=>bn.out k h2 h1,ci.out,bt.out,fun k h=>.inl (.inl h),fun k h=>.inl (.inr h),fun k h=>.inr h⟩,fun k hk => ?_⟩,fun k hk => ?_,HW.out⟩
 ·obtain ⟨e1,e2,e3⟩:=ey.out
  rw [e1,e2,e3]
  exact ⟨⟨_,rfl,ad.out.now⟩,HX.out.op,HX.out.val,HX.out.n⟩
 ·rcases hk with (hk | hk) | hk
  ·exact ab.out.lt k hk
  ·exact ba.out.lt k hk
  exact ad.out.lt k hk
 rcases hk with (hk | hk) | hk
 ·have:=ab.out.base k hk;omega
 ·have:=ba.out.base k hk;omega
 have:=ad.out.base k hk;omega
end Go.Proofs.YtagabiidbbhhmaaGreat
