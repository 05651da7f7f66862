/- Part 31. -/
import Derived.Test.YtagabiidbbhhmaaGreatEB30
namespace Go.Proofs.YtagabiidbbhhmaaGreat
set_option linter.all false
open Go.RowKit
structure BlockV (W:World) (v:Value) (x:BlockD):Prop where
 ex:∃ pv uv tv,v = .agg #[pv,uv,.int .i64 x.term.op,.int .i64 x.term.val,tv,.int .i64 x.term.n]/\eT PhiR 4 W pv x.phis/\eT gY 4 W uv x.code/\Ints W tv x.term.to
 op:In64 x.term.op
 val:In64 x.term.val
 n:In64 x.term.n
theorem BlockV.below {W W' : World} {v:Value} {x:BlockD} (h:BlockV W v x) (hb:Below W.heap.size W W'):BlockV W' v x:=by
 obtain ⟨⟨pv,uv,tv,e,h1,h2,h3⟩,a,b,c⟩:=h
 exact ⟨⟨pv,uv,tv,e,h1.below PhiR.lasting hb,h2.below gY.lasting hb,h3.below hb⟩,a,b,c⟩
theorem BlockC.blockV {W:World} {b o:Nat} {x:BlockD} {ap ai at_:Option Addr} {cp ci ct:Nat} (h:BlockC W b o x ap ai at_ cp ci ct):BlockV W (.agg #[.slice ap x.phis.length cp,.slice ai x.code.length ci,.int .i64 x.term.op,.int .i64 x.term.val,.slice at_ x.term.to.length ct,.int .i64 x.term.n]) x :=
 ⟨⟨_,_,_,rfl,h.phis,h.code,h.to⟩,h.op64,h.val64,h.n64⟩
def aC0 (x:BlockD) (w:World) (e:Ending) (w' : World):Prop :=
 ∃ (pv uv tv:Value) (S:Foot),e = .returned (.agg #[pv,uv,.int .i64 x.term.op,.int .i64 x.term.val,tv,.int .i64 x.term.n])/\OBlock w' S [pv,uv,.int .i64 x.term.op,.int .i64 x.term.val,tv,.int .i64 x.term.n] x/\mK w.heap.size S/\Below w.heap.size w w'
set_option maxHeartbeats 25600000 in
set_option maxRecDepth 100000 in
theorem aAG {w:World} {v:Value} {x:BlockD} (hv:BlockV w v x) (hp1:x.phis.length <= 100000) (hc1:x.code.length <= 100000):Calls Tryz.prog 91 #[v] w (aC0 x w):=by
 have HX:=h! hv
 obtain ⟨⟨pv,uv,tv,rfl,hp,hc,ht⟩, -, -, -⟩:=hv
 obtain ⟨ap,cp,bp,op_,rfl,hpc,hpm,hpl16,hpa,hpx⟩:=fH hp
 obtain ⟨ac,cc,bc,oc,rfl,hcc,hcm,hcl16,hca,hcx⟩:=fS hc
 obtain ⟨ta,tc,rfl⟩:=ht.form
 obtain ⟨tl,htl⟩ : ∃ n,n=x.term.to.length:=⟨_,rfl⟩
 rw [<-htl] at ht
 have HTL:=h! htl
 obtain ⟨pl,hpl⟩ : ∃ n,n=x.phis.length:=⟨_,rfl⟩
 obtain ⟨cl,hcl⟩ : ∃ n,n=x.code.length:=⟨_,rfl⟩
 obtain ⟨op,hop⟩ : ∃ n,n=x.term.op:=⟨_,rfl⟩
 obtain ⟨val,hval⟩ : ∃ n,n=x.term.val:=⟨_,rfl⟩
 obtain ⟨tn,htn⟩ : ∃ n,n=x.term.n:=⟨_,rfl⟩
 have HTE:Hid (op=x.term.op/\val=x.term.val/\tn=x.term.n):=h! ⟨hop,hval,htn⟩
 unfold aC0
 rw [<-hop, <-hval, <-htn]
 rw [<-hpl] at hp1 hpc hpa ⊢
 rw [<-hcl] at hc1 hcc hca ⊢
 have HPL:=h! hpl
 have HCL:=h! hcl
 have HPA:=h! hpa
 have HPX:=h! hpx
 have HCA:=h! hca
 have HCX:=h! hcx
 have HTV:=h! ht
 rw [<-htl] at HX
 rw [<-htl]
 clear hp hc ht htl hpa hpx hca hcx hpl hcl hop hval htn hpl16 hcl16
 go_enter Tryz.func91,Tryz.ntmps91
 go_upto_region 2 with (fail)
 have hA_:=(Below.refl w.heap.size w).alloc (aA _) (.cells #[.slice ap pl cp,.slice ac cl cc,.int .i64 op,.int .i64 val,.slice ta tl tc,.int .i64 tn] 63)
 have HW:=h! hA_
 clear hA_
 have B1:=h! (Box.new w #[.slice ap pl cp,.slice ac cl cc,.int .i64 op,.int .i64 val,.slice ta tl tc,.int .i64 tn] 63)
 have hz0_:(w.alloc (.cells #[.slice ap pl cp,.slice ac cl cc,.int .i64 op,.int .i64 val,.slice ta tl tc,.int .i64 tn] 63)).heap.size=w.heap.size+1:=World.size_alloc _ _
 generalize w.alloc (.cells #[.slice ap pl cp,.slice ac cl cc,.int .i64 op,.int .i64 val,.slice ta tl tc,.int .i64 tn] 63)=wv0 at *
 have hA_:=(Below.refl wv0.heap.size wv0).alloc (aA _) (.cells #[.slice none 0 0,.slice none 0 0,.int .i64 0,.int .i64 0,.slice none 0 0,.int .i64 0] 63)
 replace B1:=h! (B1.out.later hA_)
 replace HW:=h! (HW.out.trans (hA_.mono HW.out.size))
 clear hA_
 have B2:=h! (Box.new wv0 #[.slice none 0 0,.slice none 0 0,.int .i64 0,.int .i64 0,.slice none 0 0,.int .i64 0] 63)
 rw [hz0_] at B2
 have hz1_:(wv0.alloc (.cells #[.slice none 0 0,.slice none 0 0,.int .i64 0,.int .i64 0,.slice none 0 0,.int .i64 0] 63)).heap.size=w.heap.size+1+1:=by rw [World.size_alloc,hz0_]
 clear hz0_
 generalize wv0.alloc (.cells #[.slice none 0 0,.slice none 0 0,.int .i64 0,.int .i64 0,.slice none 0 0,.int .i64 0] 63)=wv1 at *
 have hA_:=(Below.refl wv1.heap.size wv1).alloc (aA _) (.cells #[.slice none 0 0,.slice none 0 0,.int .i64 op,.int .i64 val,.slice ta tl tc,.int .i64 tn] 63)
 replace B1:=h! (B1.out.later hA_)
 replace B2:=h! (B2.out.later hA_)
 replace HW:=h! (HW.out.trans (hA_.mono HW.out.size))
 clear hA_
 have B3:=h! (Box.new wv1 #[.slice none 0 0,.slice none 0 0,.int .i64 op,.int .i64 val,.slice ta tl tc,.int .i64 tn] 63)
 rw [hz1_] at B3
 clear hz1_
 generalize wv1.alloc (.cells #[.slice none 0 0,.slice none 0 0,.int .i64 op,.int .i64 val,.slice ta tl tc,.int .i64 tn] 63)=wv at *
 obtain ⟨lB1,cB1,fB1⟩:=B1.out
 obtain ⟨lB2,cB2,fB2⟩:=B2.out
 obtain ⟨lB3,cB3,fB3⟩:=B3.out
 go_wp2_with fail
 refine (rN (HTV.out.below HW.out)).mono ?_
 rintro e w2 ⟨tv2,ST,rfl,hI,hF,hb⟩
 obtain ⟨ta2,tc2,rfl⟩:=hI.ints.form
 rw [<-HTL.out] at hI ⊢
 have HTS:Hid (Holds [w.heap.size,w.heap.size+1,w.heap.size+1+1] (w.heap.size+3) w2 ST (fun W=>eV W ST (.slice ta2 tl tc2) x.term.to)):=h! (((iF hI hF).from (by have:=B3.out.lt;omega)).low (by simp))
 clear hI hF
 clear lB1 cB1 fB1 lB2 cB2 fB2 lB3 cB3 fB3
 replace B1:=h! (B1.out.later hb)
 replace B2:=h! (B2.out.later hb)
 replace B3:=h! (B3.out.later hb)
 replace HW:=h! (HW.out.trans (hb.mono HW.out.size))
 clear hb
 obtain ⟨lB1,cB1,fB1⟩:=B1.out
 obtain ⟨lB2,cB2,fB2⟩:=B2.out
 obtain ⟨lB3,cB3,fB3⟩:=B3.out
 go_upto_region 3 with (fail)
 clear lB1 cB1 fB1 lB2 cB2 fB2 lB3 cB3 fB3
 have hO_:=(Only.set w2 (w.heap.size+1+1) 4 (.slice ta2 tl tc2))
 replace B1:=h! (B1.out.only hO_ (by first | assumption | (simp;done) | omega))
 replace B2:=h! (B2.out.only hO_ (by first | assumption | (simp;done) | omega))
 replace HTS:=h! (HTS.out.other (p:=⟨w.heap.size+1+1,4,none⟩) (.slice ta2 tl tc2) (by simp))
 replace HW:=h! (hO_.2.2 HW.out (by first | assumption | omega | (have:=HW.out.size;omega) | (simp;done) | (simp;omega)))
 replace B3:=h! (Box.to (A':=#[.slice none 0 0,.slice none 0 0,.int .i64 op,.int .i64 val,(.slice ta2 tl tc2),.int .i64 tn]) (B3.out.set 4 (.slice ta2 tl tc2)) (by first | rfl | simp))
 clear hO_
 generalize (w2.setCell ⟨w.heap.size+1+1,4,none⟩ (.slice ta2 tl tc2))=w3 at *
 obtain ⟨lB1,cB1,fB1⟩:=B1.out
 obtain ⟨lB2,cB2,fB2⟩:=B2.out
 obtain ⟨lB3,cB3,fB3⟩:=B3.out
 go_wp2_with fail
 go_loopw [20] (fun i wr => ∃ (j:Nat) (vj:Value) (SP:Foot),j <= pl/\i = .int .i64 j/\Below w.heap.size w wr/\Box wr w.heap.size #[.slice ap pl cp,.slice ac cl cc,.int .i64 op,.int .i64 val,.slice ta tl tc,.int .i64 tn]/\Box wr (w.heap.size+1) #[.slice none 0 0,.slice none 0 0,.int .i64 0,.int .i64 0,.slice none 0 0,.int .i64 0]/\Box wr (w.heap.size+1+1) #[vj,.slice none 0 0,.int .i64 op,.int .i64 val,.slice ta2 tl tc2,.int .i64 tn] /\
   Holds [w.heap.size,w.heap.size+1,w.heap.size+1+1] (w.heap.size+3) wr ST (fun W=>eV W ST (.slice ta2 tl tc2) x.term.to)/\Holds [w.heap.size,w.heap.size+1,w.heap.size+1+1] (w.heap.size+3) wr SP (fun W=>gI W SP vj (x.phis.take j))/\SP.off ST/\(∃ a c,vj = .slice a j c)) (fun i _=>pl - (intOf i).toNat)
 case atStart=>exact ⟨0,.slice none 0 0,Foot.none,aJ _,rfl,HW.out,B1.out,B2.out,B3.out,HTS.out,⟨OSl.nil none,fun _ _ h hk=>h.keep OPhi.nice hk,fun k h=>h.elim,fun k h=>h.elim,fun k h=>h.elim⟩,fun k h=>h.elim,_,_,rfl⟩
 obtain ⟨j,vj,SP,hj,rfl,hW,h1,h2,h3,h4,h5,h6,av,cv,rfl⟩:=hrel
 clear lB1 cB1 fB1 lB2 cB2 fB2 lB3 cB3 fB3
 replace HW:=h! hW
 replace B1:=h! h1
 replace B2:=h! h2
 replace B3:=h! h3
 replace HTS:=h! h4
 have HPS:=h! h5
 have HAP:=h! h6
 clear hW h1 h2 h3 h4 h5 h6
 generalize wr=w4 at *
 obtain ⟨lB1,cB1,fB1⟩:=B1.out
 obtain ⟨lB2,cB2,fB2⟩:=B2.out
 obtain ⟨lB3,cB3,fB3⟩:=B3.out
 by_cases hlt:j < pl
 ·obtain ⟨rfl,hbp⟩:=HPA.out (by omega)
  obtain ⟨p,hxm⟩ : ∃ p,x.phis[j]? = some p:=⟨_,aC (by have:=HPL.out;omega)⟩
  obtain ⟨af,av2,cf,cv2,hP⟩:=HPX.out j p hxm
  have HSRC:=h! hP.src
  have HVAL:=h! hP.vals
  have HI64:Hid (In64 p.id/\In64 p.typ):=h! ⟨hP.id64,hP.typ64⟩
  obtain ⟨m0,m1,m2,m3,r1,r2,r3,r4⟩:=hP.below HW.out hbp
  have HTK:=h! (pO x.phis j p hxm)
  clear hxm hP r1 r2 r3 r4
  have HP4L:=HPS.out.lt
  have HTL4:Hid (∀ k,ST k -> k < w4.heap.size):=h! HTS.out.lt
  have hl4:w.heap.size+3 <= w4.heap.size:=by omega
  replace HTS:=h! (HTS.out.more (aA w4.heap.size))
  replace HPS:=h! (HPS.out.more (aA w4.heap.size))
  go_upto_region 6 with (fail)
  have nBPB1:w4.heap.size ≠ w.heap.size:=fun e=>by have:=lB1;omega
  have nB1BP:w.heap.size ≠ w4.heap.size:=fun e=>nBPB1 e.symm
  have nBPB2:w4.heap.size ≠ w.heap.size+1:=fun e=>by have:=lB2;omega
  have nB2BP:w.heap.size+1 ≠ w4.heap.size:=fun e=>nBPB2 e.symm
  have nBPB3:w4.heap.size ≠ w.heap.size+1+1:=fun e=>by have:=lB3;omega
  have nB3BP:w.heap.size+1+1 ≠ w4.heap.size:=fun e=>nBPB3 e.symm
  clear lB1 cB1 fB1 lB2 cB2 fB2 lB3 cB3 fB3
  have hA_:=(Below.refl w4.heap.size w4).alloc (aA _) (.cells #[.int .i64 p.id,.int .i64 p.typ,.slice af p.src.length cf,.slice av2 p.vals.length cv2] 78)
  replace B1:=h! (B1.out.later hA_)
  replace B2:=h! (B2.out.later hA_)
  replace B3:=h! (B3.out.later hA_)
  replace HTS:=h! (HTS.out.later hA_)
  replace HPS:=h! (HPS.out.later hA_)
  replace HW:=h! (HW.out.trans (hA_.mono HW.out.size))
  clear hA_
  have BP:=h! (Box.new w4 #[.int .i64 p.id,.int .i64 p.typ,.slice af p.src.length cf,.slice av2 p.vals.length cv2] 78)
  generalize w4.alloc (.cells #[.int .i64 p.id,.int .i64 p.typ,.slice af p.src.length cf,.slice av2 p.vals.length cv2] 78)=w5 at *
  obtain ⟨lB1,cB1,fB1⟩:=B1.out
  obtain ⟨lB2,cB2,fB2⟩:=B2.out
  obtain ⟨lB3,cB3,fB3⟩:=B3.out
  obtain ⟨lBP,cBP,fBP⟩:=BP.out
  have BP5:Hid (w4.heap.size < w5.heap.size):=h! BP.out.lt
  have HPL4:Hid (∀ k,SP k -> k < w4.heap.size):=h! HP4L
  have HL45:Hid (w.heap.size+3 <= w5.heap.size):=h! (by have:=B3.out.lt;have:=BP.out.lt;omega)
  clear m0 m1 m2 m3
  refine Four.wp_region_grow (XF:=(fun _=>Foot.none)) (I:=(fun _=>True)) 7 (fun ν kz=>match kz with | 2=>.holds (fun u w' => ∃ S,Holds [] w5.heap.size w' S (fun W=>eV W S u p.src)/\True) | 5=>.holds (fun u w' => ∃ S S2,Holds [] w5.heap.size w' S (fun W=>eV W S u p.vals)/\Holds [] w5.heap.size w' S2 (fun W=>eV W S2 (ν 2) p.src)/\S.off S2) | _=>.plain) (by kernel_rfl) (by kernel_rfl) ?_ ?_ (fun _ _ h=>h.elim) (fun _ _ _ _=>trivial) trivial ?_ (fun ν => ?_)
  ·(intro ν k;(try dsimp only);split <;> first | exact True.intro | (intro u w1 w2 hu hb;first | (obtain ⟨S,S2,h1,h2,h3⟩:=hu;exact ⟨S,S2,h1.off hb (fun _ _ ⟨_,_,h⟩=>h.elim),h2.off hb (fun _ _ ⟨_,_,h⟩=>h.elim),h3⟩) | (obtain ⟨S,h1,h2⟩:=hu;exact ⟨S,h1.off hb (fun _ _ ⟨_,_,h⟩=>h.elim),h2⟩)))
  ·(intro ν ν' k h;first | rfl | ((try dsimp only);split <;> first | rfl | (rw [h 2 (by kernel_rfl)])))
  ·(intro ν j B mk A h;(try dsimp only at h);split at h <;> first | (cases h;exact Nat.le_refl _) | cases h)
  simp only [aQ,aU,aT,aY]
  iterate 2 (refine Four.Grow.val (v := ?_) rfl rfl (fun wg hbg hdg => ?_) ?_;rotate_left;(focus ((obtain ⟨lg0,cg0,fg0⟩:=B1.out.off hbg.off (fun ⟨_,h⟩=>h.elim));(obtain ⟨lg1,cg1,fg1⟩:=B2.out.off hbg.off (fun ⟨_,h⟩=>h.elim));(obtain ⟨lg2,cg2,fg2⟩:=B3.out.off hbg.off (fun ⟨_,h⟩=>h.elim));(obtain ⟨lg3,cg3,fg3⟩:=BP.out.off hbg.off (fun ⟨_,h⟩=>h.elim));clear hbg hdg;first | (go_simp;done) | (go_simp;with_reducible rfl)));simp only [Act.put,aB,aE,aF])
  refine Four.Grow.call (f := ?_) (args := ?_) rfl (fun wg => ?_) (fun wg hbg hdg => ?_) ?_
  rotate_left 2
  focus (first | (go_simp;done) | (go_simp;refine And.intro ?_ ?_ <;> with_reducible rfl) | (go_simp;with_reducible rfl))
  focus (exact (rN (HSRC.out.below (HW.out.trans ((pre0 hbg).mono HW.out.size)))).mono (fun e w2 ⟨u,S,he,hI,hF,hw⟩=>⟨u,he,⟨S,(iF hI hF).from hbg.1.size,trivial⟩,hw⟩))
  simp only [Act.put,Known.val,aB,aE,aF]
  iterate 2 (refine Four.Grow.val (v := ?_) rfl rfl (fun wg hbg hdg => ?_) ?_;rotate_left;(focus ((obtain ⟨lg0,cg0,fg0⟩:=B1.out.off hbg.off (fun ⟨_,h⟩=>h.elim));(obtain ⟨lg1,cg1,fg1⟩:=B2.out.off hbg.off (fun ⟨_,h⟩=>h.elim));(obtain ⟨lg2,cg2,fg2⟩:=B3.out.off hbg.off (fun ⟨_,h⟩=>h.elim));(obtain ⟨lg3,cg3,fg3⟩:=BP.out.off hbg.off (fun ⟨_,h⟩=>h.elim));clear hbg hdg;first | (go_simp;done) | (go_simp;with_reducible rfl)));simp only [Act.put,aB,aE,aF])
  refine Four.Grow.call (f := ?_) (args := ?_) rfl (fun wg => ?_) (fun wg hbg hdg => ?_) ?_
  rotate_left 2
  focus (first | (go_simp;done) | (go_simp;refine And.intro ?_ ?_ <;> with_reducible rfl) | (go_simp;with_reducible rfl))
  focus (have h9:=hdg 2 (by kernel_rfl);obtain ⟨S2,k1, -⟩:=h9;exact (rN (HVAL.out.below (HW.out.trans ((pre0 hbg).mono HW.out.size)))).mono (fun e w2 ⟨u,S,he,hI,hF,hw⟩=>⟨u,he,⟨S,S2,(iF hI hF).from hbg.1.size,k1.later hw,hF.off k1.lt⟩,hw⟩))
  simp only [Act.put,Known.val,aB,aE,aF]
  refine Four.Grow.val (v := ?_) rfl rfl (fun wg hbg hdg => ?_) ?_
  rotate_left
  focus ((obtain ⟨lg0,cg0,fg0⟩:=B1.out.off hbg.off (fun ⟨_,h⟩=>h.elim));(obtain ⟨lg1,cg1,fg1⟩:=B2.out.off hbg.off (fun ⟨_,h⟩=>h.elim));(obtain ⟨lg2,cg2,fg2⟩:=B3.out.off hbg.off (fun ⟨_,h⟩=>h.elim));(obtain ⟨lg3,cg3,fg3⟩:=BP.out.off hbg.off (fun ⟨_,h⟩=>h.elim));clear hbg hdg;first | (go_simp;done) | (go_simp;with_reducible rfl))
  simp only [Act.put,aB,aE,aF]
  intro wg hb hf hap
  clear hap
  clear lB1 cB1 fB1 lB2 cB2 fB2 lB3 cB3 fB3 lBP cBP fBP
  replace B1:=h! (B1.out.off hb.1 (fun ⟨_,h⟩=>h.elim))
  replace B2:=h! (B2.out.off hb.1 (fun ⟨_,h⟩=>h.elim))
  replace B3:=h! (B3.out.off hb.1 (fun ⟨_,h⟩=>h.elim))
  replace BP:=h! (BP.out.off hb.1 (fun ⟨_,h⟩=>h.elim))
  replace HTS:=h! (HTS.out.off hb.1 (fun _ _ ⟨_,h⟩=>h.elim))
  replace HPS:=h! (HPS.out.off hb.1 (fun _ _ ⟨_,h⟩=>h.elim))
  replace HW:=h! (HW.out.trans (hb.1.below HW.out.size (fun _ _ ⟨_,h⟩=>h.elim)))
  obtain ⟨lB1,cB1,fB1⟩:=B1.out
  obtain ⟨lB2,cB2,fB2⟩:=B2.out
  obtain ⟨lB3,cB3,fB3⟩:=B3.out
  obtain ⟨lBP,cBP,fBP⟩:=BP.out
  simp only [bG,Nat.reduceAdd]
  have h5:∃ S S2,Holds [] w5.heap.size wg S (fun W=>eV W S (ν 5) p.vals)/\Holds [] w5.heap.size wg S2 (fun W=>eV W S2 (ν 2) p.src)/\S.off S2:=hf 5 (by omega)
  obtain ⟨S5,S2,k5,k2,k3⟩:=h5
  obtain ⟨a2,c2,e2⟩:=k2.now.ints.form
  obtain ⟨a5,c5,e5⟩:=k5.now.ints.form
  simp only [e2,e5] at *
  clear hf e2 e5
  have h45:w4.heap.size < w5.heap.size:=BP5.out
  have HS5:=h! (k5.low (bs':=[w4.heap.size]) (by simp;exact h45))
  have HS2:=h! (k2.low (bs':=[w4.heap.size]) (by simp;exact h45))
  have HK3:=h! k3
  clear k5 k2 k3 hb
  go_upto_region 7 with (fail)
  clear lB1 cB1 fB1 lB2 cB2 fB2 lB3 cB3 fB3 lBP cBP fBP
  have hO_:=((Only.set wg (w4.heap.size) 2 (.slice a2 p.src.length c2)).put 3 (.slice a5 p.vals.length c5))
  replace B1:=h! (B1.out.only hO_ (by first | assumption | (simp;done) | omega))
  replace B2:=h! (B2.out.only hO_ (by first | assumption | (simp;done) | omega))
  replace B3:=h! (B3.out.only hO_ (by first | assumption | (simp;done) | omega))
  replace HTS:=h! ((HTS.out.other (p:=⟨w4.heap.size,2,none⟩) (.slice a2 p.src.length c2) (by simp)).other (p:=⟨w4.heap.size,3,none⟩) (.slice a5 p.vals.length c5) (by simp))
  replace HPS:=h! ((HPS.out.other (p:=⟨w4.heap.size,2,none⟩) (.slice a2 p.src.length c2) (by simp)).other (p:=⟨w4.heap.size,3,none⟩) (.slice a5 p.vals.length c5) (by simp))
  replace HS5:=h! ((HS5.out.other (p:=⟨w4.heap.size,2,none⟩) (.slice a2 p.src.length c2) (by simp)).other (p:=⟨w4.heap.size,3,none⟩) (.slice a5 p.vals.length c5) (by simp))
  replace HS2:=h! ((HS2.out.other (p:=⟨w4.heap.size,2,none⟩) (.slice a2 p.src.length c2) (by simp)).other (p:=⟨w4.heap.size,3,none⟩) (.slice a5 p.vals.length c5) (by simp))
  replace HW:=h! (hO_.2.2 HW.out (by first | assumption | omega | (have:=HW.out.size;omega) | (simp;done) | (simp;omega)))
  replace BP:=h! (Box.to (A':=#[.int .i64 p.id,.int .i64 p.typ,(.slice a2 p.src.length c2),(.slice a5 p.vals.length c5)]) ((BP.out.set 2 (.slice a2 p.src.length c2)).set 3 (.slice a5 p.vals.length c5)) (by first | rfl | simp))
  clear hO_
  generalize ((wg.setCell ⟨w4.heap.size,2,none⟩ (.slice a2 p.src.length c2)).setCell ⟨w4.heap.size,3,none⟩ (.slice a5 p.vals.length c5))=w6 at *
  obtain ⟨lB1,cB1,fB1⟩:=B1.out
  obtain ⟨lB2,cB2,fB2⟩:=B2.out
  obtain ⟨lB3,cB3,fB3⟩:=B3.out
  obtain ⟨lBP,cBP,fBP⟩:=BP.out
  have HEL:Hid (Holds [] (w.heap.size+3) w6 (S2.or S5) (fun W=>OPhi W (S2.or S5) [.int .i64 p.id,.int .i64 p.typ,.slice a2 p.src.length c2,.slice a5 p.vals.length c5] p)):=h!
   (lP OPhi.nice ⟨⟨_,_,S2,S5,rfl,HS2.out.now,HS5.out.now,HK3.out.symm,fun k h=>.inl h,fun k h=>.inr h⟩,fun k hk=>hk.elim (HS2.out.lt k) (HS5.out.lt k),HI64.out.1,HI64.out.2⟩ (fun k hk=>by have:=HL45.out;rcases hk with hk | hk;exact bI HL45.out (HS2.out.base k hk);exact bI HL45.out (HS5.out.base k hk)))
  have HFO:Hid ((S2.or S5).off SP):=h! (fun k h1 h2=>by
   have h3:=HPL4.out k h2
   rcases h1 with h1 | h1
   ·have:=HS2.out.base k h1;have:=BP5.out;omega
   have:=HS5.out.base k h1;have:=BP5.out;omega)
  replace HPS:=h! (HPS.out.less (bs':=[w.heap.size,w.heap.size+1,w.heap.size+1+1]) (fun b hb=>bX _ hb))
  replace HTS:=h! (HTS.out.less (bs':=[w.heap.size,w.heap.size+1,w.heap.size+1+1]) (fun b hb=>bX _ hb))
  have HLN:Hid ((x.phis.take j).length=j):=h! (by rw [aR];have:=HPL.out;omega)
  have hb6:w.heap.size+3 <= w6.heap.size:=by have:=lB3;omega
  have HST:Hid ((S2.or S5).off ST):=h! (fun k h1 h2=>by
   have h3:=HTL4.out k h2
   rcases h1 with h1 | h1
   ·have:=HS2.out.base k h1;have:=BP5.out;omega
   have:=HS5.out.base k h1;have:=BP5.out;omega)
  have HTL6:=h! HTS.out.lt
  clear HS2 HS5 HK3 BP5 HL45 HTL4
  go_upto_region 8 with (at_builtin;refine lH OPhi.nice rfl _ _ 58 78 rfl aGB rfl rfl HLN.out (HPS.out.alloc _) (Box.new _ _ _) rfl (HEL.out.alloc _).now HFO.out HEL.out.base (by intro b hb;simp at hb;omega) (by simp;omega) (by simp [Value.oneCell']) (by omega) (by omega) ?_;intro v2 w7 SP2 q1 q2 q3 q4;obtain ⟨g2,c2,rfl⟩:=q4;have hB3:=(B3.out.alloc _).off q3 (fun h=>HPS.out.free _ h (by simp));obtain ⟨lx,cx,fx⟩:=hB3)
  clear lx cx fx
  clear lB1 cB1 fB1 lB2 cB2 fB2 lB3 cB3 fB3 lBP cBP fBP
  replace B1:=h! ((B1.out.alloc _).off q3 (fun h=>HPS.out.free _ h (by simp)))
  replace B2:=h! ((B2.out.alloc _).off q3 (fun h=>HPS.out.free _ h (by simp)))
  replace B3:=h! ((B3.out.alloc _).off q3 (fun h=>HPS.out.free _ h (by simp)))
  replace HTS:=h! ((HTS.out.alloc _).off q3 (fun k h1 h2=>HAP.out k h2 h1))
  replace HW:=h! ((HW.out.alloc HW.out.size _).trans (q3.below (by simp;have:=HW.out.size;omega) (fun k _ hk=>by have:=HPS.out.base k hk;omega)))
  replace HAP:Hid (SP2.off ST):=h! (fun k h1 h2=>by
   rcases q2 k h1 with h3 | h3 | h3
   ·exact HAP.out k h3 h2
   ·exact HST.out k h3 h2
   have:=HTL6.out k h2;simp at h3;omega)
  clear HPS BP
  have HPS:=h! q1
  clear q1 q2 q3 hb6 HEL HFO HTL6 HST HPL4
  obtain ⟨lB1,cB1,fB1⟩:=B1.out
  obtain ⟨lB2,cB2,fB2⟩:=B2.out
  obtain ⟨lB3,cB3,fB3⟩:=B3.out
  clear lB1 cB1 fB1 lB2 cB2 fB2 lB3 cB3 fB3
  have hO_:=(Only.set w7 (w.heap.size+1+1) 0 (.slice (some ⟨g2,0,none⟩) (j+1) c2))
  replace B1:=h! (B1.out.only hO_ (by first | assumption | (simp;done) | omega))
  replace B2:=h! (B2.out.only hO_ (by first | assumption | (simp;done) | omega))
  replace HTS:=h! (HTS.out.other (p:=⟨w.heap.size+1+1,0,none⟩) (.slice (some ⟨g2,0,none⟩) (j+1) c2) (by simp))
  replace HPS:=h! (HPS.out.other (p:=⟨w.heap.size+1+1,0,none⟩) (.slice (some ⟨g2,0,none⟩) (j+1) c2) (by simp))
  replace HW:=h! (hO_.2.2 HW.out (by first | assumption | omega | (have:=HW.out.size;omega) | (simp;done) | (simp;omega)))
  replace B3:=h! (Box.to (A':=#[(.slice (some ⟨g2,0,none⟩) (j+1) c2),.slice none 0 0,.int .i64 op,.int .i64 val,.slice ta2 tl tc2,.int .i64 tn]) (B3.out.set 0 (.slice (some ⟨g2,0,none⟩) (j+1) c2)) (by first | rfl | simp))
  clear hO_
  generalize (w7.setCell ⟨w.heap.size+1+1,0,none⟩ (.slice (some ⟨g2,0,none⟩) (j+1) c2))=w8 at *
  obtain ⟨lB1,cB1,fB1⟩:=B1.out
  obtain ⟨lB2,cB2,fB2⟩:=B2.out
  obtain ⟨lB3,cB3,fB3⟩:=B3.out
  rw [<-HTK.out] at HPS
  go_wp2
  go_roundw
  case rel=>exact ⟨j+1,.slice (some ⟨g2,0,none⟩) (j+1) c2,SP2,hlt,by go_num,HW.out,B1.out,B2.out,B3.out,HTS.out,HPS.out,HAP.out,_,_,rfl⟩
  simp [intOf];omega
 have hjp:j=pl:=by omega
 have HPS2:Hid (Holds [w.heap.size,w.heap.size+1,w.heap.size+1+1] (w.heap.size+3) w4 SP (fun W=>gI W SP (.slice av pl cv) x.phis)):=h! (by
  have h9:=HPS.out
  rw [aH (by have:=HPL.out;omega),hjp] at h9
  exact h9)
 rw [hjp] at B3
 clear HPS HPX hjp
 clear lB1 cB1 fB1 lB2 cB2 fB2 lB3 cB3 fB3
 obtain ⟨lB1,cB1,fB1⟩:=B1.out
 obtain ⟨lB2,cB2,fB2⟩:=B2.out
 obtain ⟨lB3,cB3,fB3⟩:=B3.out
 go_wp2_with fail
 go_loopw [42] (fun i wr => ∃ (j:Nat) (uj:Value) (SI:Foot),j <= cl/\i = .int .i64 j/\Below w.heap.size w wr/\Box wr w.heap.size #[.slice ap pl cp,.slice ac cl cc,.int .i64 op,.int .i64 val,.slice ta tl tc,.int .i64 tn]/\Box wr (w.heap.size+1) #[.slice none 0 0,.slice none 0 0,.int .i64 0,.int .i64 0,.slice none 0 0,.int .i64 0]/\Box wr (w.heap.size+1+1) #[.slice av pl cv,uj,.int .i64 op,.int .i64 val,.slice ta2 tl tc2,.int .i64 tn] /\
   Holds [w.heap.size,w.heap.size+1,w.heap.size+1+1] (w.heap.size+3) wr ST (fun W=>eV W ST (.slice ta2 tl tc2) x.term.to)/\Holds [w.heap.size,w.heap.size+1,w.heap.size+1+1] (w.heap.size+3) wr SP (fun W=>gI W SP (.slice av pl cv) x.phis) /\
   Holds [w.heap.size,w.heap.size+1,w.heap.size+1+1] (w.heap.size+3) wr SI (fun W=>iN W SI uj (x.code.take j))/\SI.off ST/\SI.off SP/\(∃ a c,uj = .slice a j c)) (fun i _=>cl - (intOf i).toNat)
 case atStart=>exact ⟨0,.slice none 0 0,Foot.none,aJ _,rfl,HW.out,B1.out,B2.out,B3.out,HTS.out,HPS2.out,⟨OSl.nil none,fun _ _ h hk=>h.keep OInstr.nice hk,fun k h=>h.elim,fun k h=>h.elim,fun k h=>h.elim⟩,fun k h=>h.elim,fun k h=>h.elim,_,_,rfl⟩
 obtain ⟨k,uj,SI,hj,rfl,hW,h1,h2,h3,h4,h5,h6,h7,h8,au,cu,rfl⟩:=hrel
 clear lB1 cB1 fB1 lB2 cB2 fB2 lB3 cB3 fB3
 replace HW:=h! hW
 replace B1:=h! h1
 replace B2:=h! h2
 replace B3:=h! h3
 replace HTS:=h! h4
 replace HPS2:=h! h5
 have HIS:=h! h6
 have HAT:=h! h7
 have HAI:=h! h8
 clear hW h1 h2 h3 h4 h5 h6 h7 h8
 generalize wr=w5 at *
 obtain ⟨lB1,cB1,fB1⟩:=B1.out
 obtain ⟨lB2,cB2,fB2⟩:=B2.out
 obtain ⟨lB3,cB3,fB3⟩:=B3.out
 by_cases hlt2:k < cl
 ·obtain ⟨rfl,hbc⟩:=HCA.out (by omega)
  obtain ⟨y,hxm⟩ : ∃ y,x.code[k]? = some y:=⟨_,aC (by have:=HCL.out;omega)⟩
  obtain ⟨aa,ca,hP⟩:=HCX.out k y hxm
  have HARG:=h! hP.args
  have HI64:Hid (In64 y.op/\In64 y.id/\In64 y.n):=h! ⟨hP.op64,hP.id64,hP.n64⟩
  obtain ⟨m0,m1,m2,m3,r1,r2,r3,r4⟩:=hP.below HW.out hbc
  have HTK:=h! (pO x.code k y hxm)
  clear hxm hP r1 r2 r3 r4
  have HP4L:Hid (∀ q,SI q -> q < w5.heap.size):=h! HIS.out.lt
  have HPP4:Hid (∀ q,SP q -> q < w5.heap.size):=h! HPS2.out.lt
  have HTL4:Hid (∀ q,ST q -> q < w5.heap.size):=h! HTS.out.lt
  have hl4:w.heap.size+3 <= w5.heap.size:=by omega
  replace HTS:=h! (HTS.out.more (aA w5.heap.size))
  replace HPS2:=h! (HPS2.out.more (aA w5.heap.size))
  replace HIS:=h! (HIS.out.more (aA w5.heap.size))
  go_upto_region 12 with (fail)
  have nBIB1:w5.heap.size ≠ w.heap.size:=fun e=>by have:=lB1;omega
  have nB1BI:w.heap.size ≠ w5.heap.size:=fun e=>nBIB1 e.symm
  have nBIB2:w5.heap.size ≠ w.heap.size+1:=fun e=>by have:=lB2;omega
  have nB2BI:w.heap.size+1 ≠ w5.heap.size:=fun e=>nBIB2 e.symm
  have nBIB3:w5.heap.size ≠ w.heap.size+1+1:=fun e=>by have:=lB3;omega
  have nB3BI:w.heap.size+1+1 ≠ w5.heap.size:=fun e=>nBIB3 e.symm
  clear lB1 cB1 fB1 lB2 cB2 fB2 lB3 cB3 fB3
  have hA_:=(Below.refl w5.heap.size w5).alloc (aA _) (.cells #[.int .i64 y.op,.int .i64 y.id,.slice aa y.args.length ca,.int .i64 y.n] 82)
  replace B1:=h! (B1.out.later hA_)
  replace B2:=h! (B2.out.later hA_)
  replace B3:=h! (B3.out.later hA_)
  replace HTS:=h! (HTS.out.later hA_)
  replace HPS2:=h! (HPS2.out.later hA_)
  replace HIS:=h! (HIS.out.later hA_)
  replace HW:=h! (HW.out.trans (hA_.mono HW.out.size))
  clear hA_
  have BI:=h! (Box.new w5 #[.int .i64 y.op,.int .i64 y.id,.slice aa y.args.length ca,.int .i64 y.n] 82)
  generalize w5.alloc (.cells #[.int .i64 y.op,.int .i64 y.id,.slice aa y.args.length ca,.int .i64 y.n] 82)=w6 at *
  obtain ⟨lB1,cB1,fB1⟩:=B1.out
  obtain ⟨lB2,cB2,fB2⟩:=B2.out
  obtain ⟨lB3,cB3,fB3⟩:=B3.out
  obtain ⟨lBI,cBI,fBI⟩:=BI.out
  have BI5:Hid (w5.heap.size < w6.heap.size):=h! BI.out.lt
  clear m0 m1 m2 m3
  go_wp2_with fail
  refine (rN (HARG.out.below HW.out)).mono ?_
  rintro e w7 ⟨tv2,SA,rfl,hI,hF,hb⟩
  obtain ⟨a2,c2,rfl⟩:=hI.ints.form
  have HAS:Hid (Holds [w5.heap.size] w6.heap.size w7 SA (fun W=>eV W SA (.slice a2 y.args.length c2) y.args)):=h! ((iF hI hF).low (by simp;exact BI5.out))
  clear hI hF
  clear lB1 cB1 fB1 lB2 cB2 fB2 lB3 cB3 fB3 lBI cBI fBI
  replace B1:=h! (B1.out.later hb)
  replace B2:=h! (B2.out.later hb)
  replace B3:=h! (B3.out.later hb)
  replace BI:=h! (BI.out.later hb)
  replace HTS:=h! (HTS.out.later hb)
  replace HPS2:=h! (HPS2.out.later hb)
  replace HIS:=h! (HIS.out.later hb)
  replace HW:=h! (HW.out.trans (hb.mono HW.out.size))
  clear hb
  obtain ⟨lB1,cB1,fB1⟩:=B1.out
  obtain ⟨lB2,cB2,fB2⟩:=B2.out
  obtain ⟨lB3,cB3,fB3⟩:=B3.out
  obtain ⟨lBI,cBI,fBI⟩:=BI.out
  go_upto_region 13 with (fail)
  clear lB1 cB1 fB1 lB2 cB2 fB2 lB3 cB3 fB3 lBI cBI fBI
  have hO_:=(Only.set w7 (w5.heap.size) 2 (.slice a2 y.args.length c2))
  replace B1:=h! (B1.out.only hO_ (by first | assumption | (simp;done) | omega))
  replace B2:=h! (B2.out.only hO_ (by first | assumption | (simp;done) | omega))
  replace B3:=h! (B3.out.only hO_ (by first | assumption | (simp;done) | omega))
  replace HTS:=h! (HTS.out.other (p:=⟨w5.heap.size,2,none⟩) (.slice a2 y.args.length c2) (by simp))
  replace HPS2:=h! (HPS2.out.other (p:=⟨w5.heap.size,2,none⟩) (.slice a2 y.args.length c2) (by simp))
  replace HIS:=h! (HIS.out.other (p:=⟨w5.heap.size,2,none⟩) (.slice a2 y.args.length c2) (by simp))
  replace HAS:=h! (HAS.out.other (p:=⟨w5.heap.size,2,none⟩) (.slice a2 y.args.length c2) (by simp))
  replace HW:=h! (hO_.2.2 HW.out (by first | assumption | omega | (have:=HW.out.size;omega) | (simp;done) | (simp;omega)))
  replace BI:=h! (Box.to (A':=#[.int .i64 y.op,.int .i64 y.id,(.slice a2 y.args.length c2),.int .i64 y.n]) (BI.out.set 2 (.slice a2 y.args.length c2)) (by first | rfl | simp))
  clear hO_
  generalize (w7.setCell ⟨w5.heap.size,2,none⟩ (.slice a2 y.args.length c2))=w8 at *
  obtain ⟨lB1,cB1,fB1⟩:=B1.out
  obtain ⟨lB2,cB2,fB2⟩:=B2.out
  obtain ⟨lB3,cB3,fB3⟩:=B3.out
  obtain ⟨lBI,cBI,fBI⟩:=BI.out
  have HFR:Hid (∀ q,SA q -> w5.heap.size < q):=h! (fun q hq=>by have:=HAS.out.base q hq;have:=BI5.out;omega)
  have HEL:Hid (Holds [] (w.heap.size+3) w8 SA (fun W=>OInstr W SA [.int .i64 y.op,.int .i64 y.id,.slice a2 y.args.length c2,.int .i64 y.n] y)):=h!
   (lP OInstr.nice ⟨⟨_,rfl,HAS.out.now⟩,HI64.out.1,HI64.out.2.1,HI64.out.2.2⟩ (fun q hq=>by have:=HFR.out q hq;omega))
  have HFO:Hid (SA.off SI):=h! (fun q h1 h2=>by have:=HP4L.out q h2;have:=HFR.out q h1;omega)
  have HFP:Hid (SA.off SP):=h! (fun q h1 h2=>by have:=HPP4.out q h2;have:=HFR.out q h1;omega)
  have HFT:Hid (SA.off ST):=h! (fun q h1 h2=>by have:=HTL4.out q h2;have:=HFR.out q h1;omega)
  replace HPS2:=h! (HPS2.out.less (bs':=[w.heap.size,w.heap.size+1,w.heap.size+1+1]) (fun b hb=>bX _ hb))
  replace HIS:=h! (HIS.out.less (bs':=[w.heap.size,w.heap.size+1,w.heap.size+1+1]) (fun b hb=>bX _ hb))
  replace HTS:=h! (HTS.out.less (bs':=[w.heap.size,w.heap.size+1,w.heap.size+1+1]) (fun b hb=>bX _ hb))
  have HLN:Hid ((x.code.take k).length=k):=h! (by rw [aR];have:=HCL.out;omega)
  have hb6:w.heap.size+3 <= w8.heap.size:=by have:=lB3;omega
  have HTL6:=h! HTS.out.lt
  have HPL6:=h! HPS2.out.lt
  clear HAS BI5 HFR
  go_upto_region 14 with (at_builtin;refine lH OInstr.nice rfl _ _ 59 82 rfl aES rfl rfl HLN.out (HIS.out.alloc _) (Box.new _ _ _) rfl (HEL.out.alloc _).now HFO.out HEL.out.base (by intro b hb;simp at hb;omega) (by simp;omega) (by simp [Value.oneCell']) (by omega) (by omega) ?_;intro v2 w9 SI2 q1 q2 q3 q4;obtain ⟨g3,c3,rfl⟩:=q4;have hB3:=(B3.out.alloc _).off q3 (fun h=>HIS.out.free _ h (by simp));obtain ⟨lx,cx,fx⟩:=hB3)
  clear lx cx fx
  clear lB1 cB1 fB1 lB2 cB2 fB2 lB3 cB3 fB3 lBI cBI fBI
  replace B1:=h! ((B1.out.alloc _).off q3 (fun h=>HIS.out.free _ h (by simp)))
  replace B2:=h! ((B2.out.alloc _).off q3 (fun h=>HIS.out.free _ h (by simp)))
  replace B3:=h! ((B3.out.alloc _).off q3 (fun h=>HIS.out.free _ h (by simp)))
  replace HTS:=h! ((HTS.out.alloc _).off q3 (fun k h1 h2=>HAT.out k h2 h1))
  replace HPS2:=h! ((HPS2.out.alloc _).off q3 (fun k h1 h2=>HAI.out k h2 h1))
  replace HW:=h! ((HW.out.alloc HW.out.size _).trans (q3.below (by simp;have:=HW.out.size;omega) (fun k _ hk=>by have:=HIS.out.base k hk;omega)))
  replace HAT:Hid (SI2.off ST):=h! (fun k h1 h2=>by
   rcases q2 k h1 with h3 | h3 | h3
   ·exact HAT.out k h3 h2
   ·exact HFT.out k h3 h2
   have:=HTL6.out k h2;simp at h3;omega)
  replace HAI:Hid (SI2.off SP):=h! (fun k h1 h2=>by
   rcases q2 k h1 with h3 | h3 | h3
   ·exact HAI.out k h3 h2
   ·exact HFP.out k h3 h2
   have:=HPL6.out k h2;simp at h3;omega)
  clear HIS BI
  have HIS:=h! q1
  clear q1 q2 q3 hb6 HEL HFO HTL6 HPL6 HFT HFP HP4L HPP4 HTL4
  obtain ⟨lB1,cB1,fB1⟩:=B1.out
  obtain ⟨lB2,cB2,fB2⟩:=B2.out
  obtain ⟨lB3,cB3,fB3⟩:=B3.out
  clear lB1 cB1 fB1 lB2 cB2 fB2 lB3 cB3 fB3
  have hO_:=(Only.set w9 (w.heap.size+1+1) 1 (.slice (some ⟨g3,0,none⟩) (k+1) c3))
  replace B1:=h! (B1.out.only hO_ (by first | assumption | (simp;done) | omega))
  replace B2:=h! (B2.out.only hO_ (by first | assumption | (simp;done) | omega))
  replace HTS:=h! (HTS.out.other (p:=⟨w.heap.size+1+1,1,none⟩) (.slice (some ⟨g3,0,none⟩) (k+1) c3) (by simp))
  replace HPS2:=h! (HPS2.out.other (p:=⟨w.heap.size+1+1,1,none⟩) (.slice (some ⟨g3,0,none⟩) (k+1) c3) (by simp))
  replace HIS:=h! (HIS.out.other (p:=⟨w.heap.size+1+1,1,none⟩) (.slice (some ⟨g3,0,none⟩) (k+1) c3) (by simp))
  replace HW:=h! (hO_.2.2 HW.out (by first | assumption | omega | (have:=HW.out.size;omega) | (simp;done) | (simp;omega)))
  replace B3:=h! (Box.to (A':=#[.slice av pl cv,(.slice (some ⟨g3,0,none⟩) (k+1) c3),.int .i64 op,.int .i64 val,.slice ta2 tl tc2,.int .i64 tn]) (B3.out.set 1 (.slice (some ⟨g3,0,none⟩) (k+1) c3)) (by first | rfl | simp))
  clear hO_
  generalize (w9.setCell ⟨w.heap.size+1+1,1,none⟩ (.slice (some ⟨g3,0,none⟩) (k+1) c3))=w10 at *
  obtain ⟨lB1,cB1,fB1⟩:=B1.out
  obtain ⟨lB2,cB2,fB2⟩:=B2.out
  obtain ⟨lB3,cB3,fB3⟩:=B3.out
  rw [<-HTK.out] at HIS
  go_wp2
  go_roundw
  case rel=>exact ⟨k+1,.slice (some ⟨g3,0,none⟩) (k+1) c3,SI2,hlt2,by go_num,HW.out,B1.out,B2.out,B3.out,HTS.out,HPS2.out,HIS.out,HAT.out,HAI.out,_,_,rfl⟩
  simp [intOf];omega
 have hkc:k=cl:=by omega
 have HIS2:Hid (Holds [w.heap.size,w.heap.size+1,w.heap.size+1+1] (w.heap.size+3) w5 SI (fun W=>iN W SI (.slice au cl cu) x.code)):=h! (by
  have h9:=HIS.out
  rw [aH (by have:=HCL.out;omega),hkc] at h9
  exact h9)
 rw [hkc] at B3
 clear HIS hkc HCX
 clear lB1 cB1 fB1 lB2 cB2 fB2 lB3 cB3 fB3
 obtain ⟨lB1,cB1,fB1⟩:=B1.out
 obtain ⟨lB2,cB2,fB2⟩:=B2.out
 obtain ⟨lB3,cB3,fB3⟩:=B3.out
 go_wp2
 clear lB1 cB1 fB1 lB2 cB2 fB2 lB3 cB3 fB3
 have hO_:=((((((Only.set w5 (w.heap.size+1) 0 (.slice av pl cv)).put 1 (.slice au cl cu)).put 2 (.int .i64 op)).put 3 (.int .i64 val)).put 4 (.slice ta2 tl tc2)).put 5 (.int .i64 tn))
 replace B1:=h! (B1.out.only hO_ (by first | assumption | (simp;done) | omega))
 replace B3:=h! (B3.out.only hO_ (by first | assumption | (simp;done) | omega))
 replace HTS:=h! ((((((HTS.out.other (p:=⟨w.heap.size+1,0,none⟩) (.slice av pl cv) (by simp)).other (p:=⟨w.heap.size+1,1,none⟩) (.slice au cl cu) (by simp)).other (p:=⟨w.heap.size+1,2,none⟩) (.int .i64 op) (by simp)).other (p:=⟨w.heap.size+1,3,none⟩) (.int .i64 val) (by simp)).other (p:=⟨w.heap.size+1,4,none⟩) (.slice ta2 tl tc2) (by simp)).other (p:=⟨w.heap.size+1,5,none⟩) (.int .i64 tn) (by simp))
 replace HPS2:=h! ((((((HPS2.out.other (p:=⟨w.heap.size+1,0,none⟩) (.slice av pl cv) (by simp)).other (p:=⟨w.heap.size+1,1,none⟩) (.slice au cl cu) (by simp)).other (p:=⟨w.heap.size+1,2,none⟩) (.int .i64 op) (by simp)).other (p:=⟨w.heap.size+1,3,none⟩) (.int .i64 val) (by simp)).other (p:=⟨w.heap.size+1,4,none⟩) (.slice ta2 tl tc2) (by simp)).other (p:=⟨w.heap.size+1,5,none⟩) (.int .i64 tn) (by simp))
 replace HIS2:=h! ((((((HIS2.out.other (p:=⟨w.heap.size+1,0,none⟩) (.slice av pl cv) (by simp)).other (p:=⟨w.heap.size+1,1,none⟩) (.slice au cl cu) (by simp)).other (p:=⟨w.heap.size+1,2,none⟩) (.int .i64 op) (by simp)).other (p:=⟨w.heap.size+1,3,none⟩) (.int .i64 val) (by simp)).other (p:=⟨w.heap.size+1,4,none⟩) (.slice ta2 tl tc2) (by simp)).other (p:=⟨w.heap.size+1,5,none⟩) (.int .i64 tn) (by simp))
 replace HW:=h! (hO_.2.2 HW.out (by first | assumption | omega | (have:=HW.out.size;omega) | (simp;done) | (simp;omega)))
 replace B2:=h! (Box.to (A':=#[(.slice av pl cv),(.slice au cl cu),(.int .i64 op),(.int .i64 val),(.slice ta2 tl tc2),(.int .i64 tn)]) ((((((B2.out.set 0 (.slice av pl cv)).set 1 (.slice au cl cu)).set 2 (.int .i64 op)).set 3 (.int .i64 val)).set 4 (.slice ta2 tl tc2)).set 5 (.int .i64 tn)) (by first | rfl | simp))
 clear hO_
 generalize ((((((w5.setCell ⟨w.heap.size+1,0,none⟩ (.slice av pl cv)).setCell ⟨w.heap.size+1,1,none⟩ (.slice au cl cu)).setCell ⟨w.heap.size+1,2,none⟩ (.int .i64 op)).setCell ⟨w.heap.size+1,3,none⟩ (.int .i64 val)).setCell ⟨w.heap.size+1,4,none⟩ (.slice ta2 tl tc2)).setCell ⟨w.heap.size+1,5,none⟩ (.int .i64 tn))=w6 at *
 obtain ⟨lB1,cB1,fB1⟩:=B1.out
 obtain ⟨lB2,cB2,fB2⟩:=B2.out
 obtain ⟨lB3,cB3,fB3⟩:=B3.out
 refine bodyPost_ret (v:=.agg #[.slice av pl cv,.slice au cl cu,.int .i64 op,.int .i64 val,.slice ta2 tl tc2,.int .i64 tn]) (by simp [results,Tryz.results91,go_sem, *]) rfl ⟨_,_,_,fun q=>(SP q \/ SI q) \/ ST q,rfl,⟨⟨_,_,_,SP,SI,ST,rfl,HPS2.out.now,HIS2.out.now, ?_,fun k h1 h2=>HAI.out k h2 h1,HAP.out,HAT.out,fun k h=>.inl (.inl h),fun k h=>.inl (.inr h),fun k h=>.inr h⟩,fun k hk => ?_⟩,fun k hk => ?_,HW.out⟩
 ·obtain ⟨e1,e2,e3⟩:=HTE.out
  rw [e1,e2,e3]
  exact ⟨⟨_,rfl,HTS.out.now⟩,HX.out.op,HX.out.val,HX.out.n⟩
 ·rcases hk with (hk | hk) | hk
  ·exact HPS2.out.lt k hk
  ·exact HIS2.out.lt k hk
  exact HTS.out.lt k hk
 rcases hk with (hk | hk) | hk
 ·have:=HPS2.out.base k hk;omega
 ·have:=HIS2.out.base k hk;omega
 have:=HTS.out.base k hk;omega
end Go.Proofs.YtagabiidbbhhmaaGreat
