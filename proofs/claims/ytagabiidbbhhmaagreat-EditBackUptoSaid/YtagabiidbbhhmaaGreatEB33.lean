/- Part 33. -/
import Derived.Test.YtagabiidbbhhmaaGreatEB31
import Derived.Test.YtagabiidbbhhmaaGreatEB32
namespace Go.Proofs.YtagabiidbbhhmaaGreat
set_option linter.all false
open Go.RowKit
theorem aCN {x y:BlockD} (h1:x.phis=y.phis) (h2:x.code=y.code) (h3:x.term.op=y.term.op) (h4:x.term.val=y.term.val) (h5:x.term.to=y.term.to) (h6:x.term.n=y.term.n):x=y:=by
 obtain ⟨a,b,o,v,t,n⟩:=x
 obtain ⟨a',b',o',v',t',n'⟩:=y
 simp only at h1 h2 h3 h4 h5 h6
 subst h1 h2 h3 h4 h5 h6
 rfl
theorem aFS {x y:PhiD} (h1:x.id=y.id) (h2:x.typ=y.typ) (h3:x.src=y.src) (h4:x.vals=y.vals):x=y:=by
 obtain ⟨a,b,c,d⟩:=x
 obtain ⟨a',b',c',d'⟩:=y
 simp only at h1 h2 h3 h4
 subst h1 h2 h3 h4
 rfl
theorem aCO {x y:InstrD} (h1:x.op=y.op) (h2:x.id=y.id) (h3:x.args=y.args) (h4:x.n=y.n):x=y:=by
 obtain ⟨a,b,c,d⟩:=x
 obtain ⟨a',b',c',d'⟩:=y
 simp only at h1 h2 h3 h4
 subst h1 h2 h3 h4
 rfl
theorem oT {α : Type} {xs ys:List α} {n:Nat} (h1:n=xs.length) (h2:n=ys.length) (h:∀ j,j < n -> xs[j]? = ys[j]?):xs=ys:=by
 apply bH
 intro j
 by_cases hj:j < n
 ·exact h j hj
 rw [aS (by omega),aS (by omega)]
set_option maxHeartbeats 25600000 in
set_option maxRecDepth 100000 in
theorem rX {w:World} {v u:Value} {x y:BlockD} (hv:BlockV w v x) (hu:BlockV w u y) :
  Calls Tryz.prog 45 #[v,u] w fun e w'=>e = .returned (.bool (decide (x=y)))/\Below w.heap.size w w':=by
 obtain ⟨⟨pv,uv,tv,rfl,hp,hc,ht⟩, -, -, -⟩:=hv
 obtain ⟨⟨pv2,uv2,tv2,rfl,hp2,hc2,ht2⟩, -, -, -⟩:=hu
 obtain ⟨ap,cp,bp,op_,rfl,hpc,hpm, -,hpa,hpx⟩:=fH hp
 obtain ⟨ac,cc,bc,oc,rfl,hcc,hcm, -,hca,hcx⟩:=fS hc
 obtain ⟨ta,tc,rfl⟩:=ht.form
 obtain ⟨ap2,cp2,bp2,op2,rfl,hpc2,hpm2, -,hpa2,hpx2⟩:=fH hp2
 obtain ⟨ac2,cc2,bc2,oc2,rfl,hcc2,hcm2, -,hca2,hcx2⟩:=fS hc2
 obtain ⟨ta2,tc2,rfl⟩:=ht2.form
 obtain ⟨pl,hpl⟩ : ∃ n,n=x.phis.length:=⟨_,rfl⟩
 obtain ⟨cl,hcl⟩ : ∃ n,n=x.code.length:=⟨_,rfl⟩
 obtain ⟨tl,htl⟩ : ∃ n,n=x.term.to.length:=⟨_,rfl⟩
 obtain ⟨pl2,hpl2⟩ : ∃ n,n=y.phis.length:=⟨_,rfl⟩
 obtain ⟨cl2,hcl2⟩ : ∃ n,n=y.code.length:=⟨_,rfl⟩
 obtain ⟨tl2,htl2⟩ : ∃ n,n=y.term.to.length:=⟨_,rfl⟩
 obtain ⟨o1,ho1⟩ : ∃ n,n=x.term.op:=⟨_,rfl⟩
 obtain ⟨v1,hv1⟩ : ∃ n,n=x.term.val:=⟨_,rfl⟩
 obtain ⟨n1,hn1⟩ : ∃ n,n=x.term.n:=⟨_,rfl⟩
 obtain ⟨o2,ho2⟩ : ∃ n,n=y.term.op:=⟨_,rfl⟩
 obtain ⟨v2,hv2⟩ : ∃ n,n=y.term.val:=⟨_,rfl⟩
 obtain ⟨n2,hn2⟩ : ∃ n,n=y.term.n:=⟨_,rfl⟩
 obtain ⟨q,hq⟩ : ∃ q,q=decide (x=y):=⟨_,rfl⟩
 rw [<-hq, <-hpl, <-hcl, <-htl, <-hpl2, <-hcl2, <-htl2, <-ho1, <-hv1, <-hn1, <-ho2, <-hv2, <-hn2]
 rw [<-hpl] at hpc hpa
 rw [<-hcl] at hcc hca
 rw [<-hpl2] at hpc2 hpa2
 rw [<-hcl2] at hcc2 hca2
 rw [<-htl] at ht
 rw [<-htl2] at ht2
 have HQ:=h! hq
 have HPL:=h! hpl
 have HCL:=h! hcl
 have HPL2:=h! hpl2
 have HCL2:=h! hcl2
 have HO1:=h! ho1
 have HV1:=h! hv1
 have HN1:=h! hn1
 have HO2:=h! ho2
 have HV2:=h! hv2
 have HN2:=h! hn2
 have HPA:=h! hpa
 have HPX:=h! hpx
 have HCA:=h! hca
 have HCX:=h! hcx
 have HPA2:=h! hpa2
 have HPX2:=h! hpx2
 have HCA2:=h! hca2
 have HCX2:=h! hcx2
 have HT1:=h! ht
 have HT2:=h! ht2
 clear hp hc ht hp2 hc2 ht2 hq hpl hcl htl hpl2 hcl2 htl2 ho1 hv1 hn1 ho2 hv2 hn2 hpa hpx hca hcx hpa2 hpx2 hca2 hcx2
 go_enter Tryz.func45,Tryz.ntmps45
 go_upto_region 1 with (fail)
 have hA_:=(Below.refl w.heap.size w).alloc (aA _) (.cells #[.slice ap pl cp,.slice ac cl cc,.int .i64 o1,.int .i64 v1,.slice ta tl tc,.int .i64 n1] 63)
 have HW:=h! hA_
 clear hA_
 have B1:=h! (Box.new w #[.slice ap pl cp,.slice ac cl cc,.int .i64 o1,.int .i64 v1,.slice ta tl tc,.int .i64 n1] 63)
 have hz0_:(w.alloc (.cells #[.slice ap pl cp,.slice ac cl cc,.int .i64 o1,.int .i64 v1,.slice ta tl tc,.int .i64 n1] 63)).heap.size=w.heap.size+1:=World.size_alloc _ _
 generalize w.alloc (.cells #[.slice ap pl cp,.slice ac cl cc,.int .i64 o1,.int .i64 v1,.slice ta tl tc,.int .i64 n1] 63)=wv0 at *
 have hA_:=(Below.refl wv0.heap.size wv0).alloc (aA _) (.cells #[.slice ap2 pl2 cp2,.slice ac2 cl2 cc2,.int .i64 o2,.int .i64 v2,.slice ta2 tl2 tc2,.int .i64 n2] 63)
 replace B1:=h! (B1.out.later hA_)
 replace HW:=h! (HW.out.trans (hA_.mono HW.out.size))
 clear hA_
 have B2:=h! (Box.new wv0 #[.slice ap2 pl2 cp2,.slice ac2 cl2 cc2,.int .i64 o2,.int .i64 v2,.slice ta2 tl2 tc2,.int .i64 n2] 63)
 rw [hz0_] at B2
 clear hz0_
 generalize wv0.alloc (.cells #[.slice ap2 pl2 cp2,.slice ac2 cl2 cc2,.int .i64 o2,.int .i64 v2,.slice ta2 tl2 tc2,.int .i64 n2] 63)=wv at *
 obtain ⟨lB1,cB1,fB1⟩:=B1.out
 obtain ⟨lB2,cB2,fB2⟩:=B2.out
 cases h1:((pl:Int) != (pl2:Int))
 rotate_left
 ·skip
  have hqf:q=false:=by rw [HQ.out];exact decide_eq_false (fun e=>(by have h9:pl ≠ pl2:=(by simp at h1;omega);exact h9 (by rw [HPL.out,HPL2.out,e])))
  subst hqf
  go_wp2
  go_ret
  exact ⟨rfl,HW.out⟩
 cases h2:((cl:Int) != (cl2:Int))
 rotate_left
 ·skip
  have hqf:q=false:=by rw [HQ.out];exact decide_eq_false (fun e=>(by have h9:cl ≠ cl2:=(by simp at h2;omega);exact h9 (by rw [HCL.out,HCL2.out,e])))
  subst hqf
  go_wp2
  go_ret
  exact ⟨rfl,HW.out⟩
 cases h3:(o1 != o2)
 rotate_left
 ·skip
  have hqf:q=false:=by rw [HQ.out];exact decide_eq_false (fun e=>(by have h9:o1 ≠ o2:=(by simpa using h3);exact h9 (by rw [HO1.out,HO2.out,e])))
  subst hqf
  go_wp2
  go_ret
  exact ⟨rfl,HW.out⟩
 cases h4:(v1 != v2)
 rotate_left
 ·skip
  have hqf:q=false:=by rw [HQ.out];exact decide_eq_false (fun e=>(by have h9:v1 ≠ v2:=(by simpa using h4);exact h9 (by rw [HV1.out,HV2.out,e])))
  subst hqf
  go_wp2
  go_ret
  exact ⟨rfl,HW.out⟩
 cases h5:(n1 != n2)
 rotate_left
 ·skip
  have hqf:q=false:=by rw [HQ.out];exact decide_eq_false (fun e=>(by have h9:n1 ≠ n2:=(by simpa using h5);exact h9 (by rw [HN1.out,HN2.out,e])))
  subst hqf
  go_wp2
  go_ret
  exact ⟨rfl,HW.out⟩
 go_wp2_with fail
 refine (yI (HT1.out.below HW.out) (HT2.out.below HW.out)).mono ?_
 rintro e w2 ⟨rfl,hb⟩
 obtain ⟨c,hc⟩ : ∃ c,c=decide (x.term.to=y.term.to):=⟨_,rfl⟩
 rw [<-hc]
 have HC:=h! hc
 clear hc
 clear lB1 cB1 fB1 lB2 cB2 fB2
 replace B1:=h! (B1.out.later hb)
 replace B2:=h! (B2.out.later hb)
 replace HW:=h! (HW.out.trans (hb.mono HW.out.size))
 clear hb
 obtain ⟨lB1,cB1,fB1⟩:=B1.out
 obtain ⟨lB2,cB2,fB2⟩:=B2.out
 cases c
 ·skip
  have hqf:q=false:=by rw [HQ.out];exact decide_eq_false (fun e=>(by have h9:=HC.out;simp [e] at h9))
  subst hqf
  go_wp2
  go_ret
  exact ⟨rfl,HW.out⟩
 have HEQ:Hid (x.term.op=y.term.op/\x.term.val=y.term.val/\x.term.to=y.term.to/\x.term.n=y.term.n):=h! ⟨by rw [<-HO1.out, <-HO2.out];simpa using h3,by rw [<-HV1.out, <-HV2.out];simpa using h4,by simpa using HC.out.symm,by rw [<-HN1.out, <-HN2.out];simpa using h5⟩
 obtain rfl:pl=pl2:=by simp at h1;omega
 obtain rfl:cl=cl2:=by simp at h2;omega
 clear HC HO1 HV1 HN1 HO2 HV2 HN2 HT1 HT2
 go_wp2_with fail
 clear h1 h2 h3 h4 h5
 go_loopw [5] (fun i wr => ∃ k:Nat,k <= pl/\i = .int .i64 k/\Below w.heap.size w wr/\Box wr w.heap.size #[.slice ap pl cp,.slice ac cl cc,.int .i64 o1,.int .i64 v1,.slice ta tl tc,.int .i64 n1]/\Box wr (w.heap.size+1) #[.slice ap2 pl cp2,.slice ac2 cl cc2,.int .i64 o2,.int .i64 v2,.slice ta2 tl2 tc2,.int .i64 n2] /\ ∀ j,j < k -> x.phis[j]? = y.phis[j]?) (fun i _=>pl - (intOf i).toNat)
 case atStart=>exact ⟨0,aJ _,rfl,HW.out,B1.out,B2.out,fun j h=>absurd h (eO _)⟩
 case round =>
  obtain ⟨k,hk,rfl,hW,hb1,hb2,hs⟩:=hrel
  clear lB1 cB1 fB1 lB2 cB2 fB2
  replace HW:=h! hW
  replace B1:=h! hb1
  replace B2:=h! hb2
  have HS:=h! hs
  clear hW hb1 hb2 hs
  obtain ⟨lB1,cB1,fB1⟩:=B1.out
  obtain ⟨lB2,cB2,fB2⟩:=B2.out
  by_cases hlt:k < pl
  ·obtain ⟨rfl,hbp⟩:=HPA.out (by omega)
   obtain ⟨rfl,hbp2⟩:=HPA2.out (by omega)
   obtain ⟨p,hpk⟩ : ∃ p,x.phis[k]? = some p:=⟨_,aC (by have:=HPL.out;omega)⟩
   obtain ⟨r,hrk⟩ : ∃ r,y.phis[k]? = some r:=⟨_,aC (by have:=HPL2.out;omega)⟩
   obtain ⟨af,av,cf,cv,hP⟩:=HPX.out k p hpk
   obtain ⟨af2,av2,cf2,cv2,hP2⟩:=HPX2.out k r hrk
   have HPK:=h! hpk
   have HRK:=h! hrk
   have HP:=h! hP
   have HP2:=h! hP2
   clear hpk hrk hP hP2
   go_upto_region 6 with (fail)
   refine Seven.wp_region_grow 13 (fun kz=>match kz with | 10=>some 12 | _=>none) (fun ν kz=>match kz with | 10=>.holds (Seven.MadeS (fun b=>.pointer (some ⟨b,0,none⟩)) #[.int .i64 0,.int .i64 0,.slice none 0 0,.slice none 0 0]) | 11=>.holds (Seven.MadeS (fun b=>.pointer (some ⟨b,0,none⟩)) #[.int .i64 0,.int .i64 0,.slice none 0 0,.slice none 0 0]) | 12=>.holds (Seven.FillS (ν 10).1 #[.int .i64 p.id,.int .i64 p.typ,.slice af p.src.length cf,.slice av p.vals.length cv]) | _=>.plain) (by kernel_rfl) (by kernel_rfl) ?_ ?_ ?_ (fun ν => ?_)
   ·(intro ν k;(try dsimp only);split <;> first | exact True.intro | (intro u φ w1 w2 D hu ho hoff hDb hlt hn;first | exact Seven.MadeS.off hu ho hoff | (exact hu.off ho hoff)))
   ·(intro ν ν' k h;first | rfl | ((try dsimp only);split <;> first | rfl | (rw [h 10 (by kernel_rfl)])))
   ·(intro j k h;(try dsimp only at h);split at h <;> first | (cases h;done) | (cases h;exact ⟨by kernel_rfl,by omega⟩))
   simp only [aQ,aU,aT,aY]
   iterate 4 (refine Seven.Grow.val (v := ?_) rfl rfl (fun wg hbg hdg => ?_) ?_;rotate_left;(focus ((obtain ⟨lg0,cg0,fg0⟩:=B1.out.later hbg);(obtain ⟨lg1,cg1,fg1⟩:=B2.out.later hbg);clear hbg hdg;first | (go_simp;done) | (go_simp;with_reducible rfl)));simp only [Act.put,aB,aE,aF])
   refine Seven.Grow.val (v := ?_) rfl rfl (fun wg hbg hdg => ?_) ?_
   rotate_left
   focus ((obtain ⟨lg0,cg0,fg0⟩:=B1.out.later hbg);(obtain ⟨lg1,cg1,fg1⟩:=B2.out.later hbg);(obtain ⟨m0,m1,m2,m3, -, -, -, -⟩:=HP.out.below (HW.out.trans (hbg.mono HW.out.size)) hbp);clear hbg hdg;first | (go_simp;done) | (go_simp;with_reducible rfl))
   simp only [Act.put,aB,aE,aF]
   iterate 4 (refine Seven.Grow.val (v := ?_) rfl rfl (fun wg hbg hdg => ?_) ?_;rotate_left;(focus ((obtain ⟨lg0,cg0,fg0⟩:=B1.out.later hbg);(obtain ⟨lg1,cg1,fg1⟩:=B2.out.later hbg);clear hbg hdg;first | (go_simp;done) | (go_simp;with_reducible rfl)));simp only [Act.put,aB,aE,aF])
   refine Seven.Grow.val (v := ?_) rfl rfl (fun wg hbg hdg => ?_) ?_
   rotate_left
   focus ((obtain ⟨lg0,cg0,fg0⟩:=B1.out.later hbg);(obtain ⟨lg1,cg1,fg1⟩:=B2.out.later hbg);(obtain ⟨m0,m1,m2,m3, -, -, -, -⟩:=HP2.out.below (HW.out.trans (hbg.mono HW.out.size)) hbp2);clear hbg hdg;first | (go_simp;done) | (go_simp;with_reducible rfl))
   simp only [Act.put,aB,aE,aF]
   iterate 2 (refine Seven.Grow.made (T := ?_) rfl rfl (fun wg hbg hdg => ?_) ?_;rotate_left;(focus ((obtain ⟨lg0,cg0,fg0⟩:=B1.out.later hbg);(obtain ⟨lg1,cg1,fg1⟩:=B2.out.later hbg);clear hbg hdg;first | (go_simp;done) | (go_simp;with_reducible rfl)));simp only [Act.put,Seven.Known.val,aB,aE,aF])
   refine Seven.Grow.turns rfl (by intro h;cases h) (fun wg hbg hdg => ?_) ?_
   focus ((have hMz:Seven.MadeS (fun b=>.pointer (some ⟨b,0,none⟩)) #[.int .i64 0,.int .i64 0,.slice none 0 0,.slice none 0 0] (ν 10).1 (ν 10).2 wg:=hdg.fact 10 ⟨by kernel_rfl,.inr rfl⟩);(obtain ⟨bz,hbe,hφz,hXz⟩:=hMz);simp only [hbe];refine ⟨_, ?_,Foot.one bz,⟨bz,rfl,fun k=>Iff.rfl,(qN hXz (.int .i64 p.id) (.int .i64 p.typ) (.slice af p.src.length cf) (.slice av p.vals.length cv)).2⟩,(qO (qN hXz (.int .i64 p.id) (.int .i64 p.typ) (.slice af p.src.length cf) (.slice av p.vals.length cv)).1).mono (fun q _ hq=>⟨10,rfl,(hφz q).2 hq⟩),fun q hq=>⟨.inl ⟨10,rfl,(hφz q).2 hq⟩,by cases hq;exact (qN hXz (.int .i64 p.id) (.int .i64 p.typ) (.slice af p.src.length cf) (.slice av p.vals.length cv)).2.lt⟩⟩;obtain ⟨lgz,cgz,fgz⟩:=hXz;(obtain ⟨lg0,cg0,fg0⟩:=B1.out.later hbg);(obtain ⟨lg1,cg1,fg1⟩:=B2.out.later hbg);clear hbg hdg;first | (go_simp;done) | (go_simp;with_reducible rfl))
   simp only [Act.put,Seven.Known.val,aB,aE,aF]
   intro wg hb hf
   obtain ⟨bBP,hνBP,hφBP,hXBP⟩:=hf.fact 12 ⟨by omega,rfl⟩
   have hBBP:wr.heap.size <= bBP:=hf.base 12 bBP ⟨by omega,rfl⟩ ((hφBP bBP).2 rfl)
   have nBPB1:bBP ≠ w.heap.size:=fun e=>by have:=lB1;omega
   have nB1BP:w.heap.size ≠ bBP:=fun e=>nBPB1 e.symm
   have nBPB2:bBP ≠ w.heap.size+1:=fun e=>by have:=lB2;omega
   have nB2BP:w.heap.size+1 ≠ bBP:=fun e=>nBPB2 e.symm
   obtain ⟨bBR,hνBR,hφBR,hXBR⟩:=hf.fact 11 ⟨by omega,rfl⟩
   have hBBR:wr.heap.size <= bBR:=hf.base 11 bBR ⟨by omega,rfl⟩ ((hφBR bBR).2 rfl)
   have nBRB1:bBR ≠ w.heap.size:=fun e=>by have:=lB1;omega
   have nB1BR:w.heap.size ≠ bBR:=fun e=>nBRB1 e.symm
   have nBRB2:bBR ≠ w.heap.size+1:=fun e=>by have:=lB2;omega
   have nB2BR:w.heap.size+1 ≠ bBR:=fun e=>nBRB2 e.symm
   have nBPBR:bBP ≠ bBR:=fun e=>hf.apart 12 11 ⟨by omega,rfl⟩ ⟨by omega,rfl⟩ (by omega) bBP ((hφBP bBP).2 rfl) ((hφBR bBP).2 e)
   have nBRBP:bBR ≠ bBP:=fun e=>hf.apart 11 12 ⟨by omega,rfl⟩ ⟨by omega,rfl⟩ (by omega) bBR ((hφBR bBR).2 rfl) ((hφBP bBR).2 e)
   simp only [hνBP,hνBR]
   clear hνBP hνBR
   have gBP:=bI HW.out.size hBBP
   clear hBBP
   have gBR:=bI HW.out.size hBBR
   clear hBBR
   clear lB1 cB1 fB1 lB2 cB2 fB2
   have hbv:=hb
   replace B1:=h! (B1.out.later hb)
   replace B2:=h! (B2.out.later hb)
   replace HW:=h! (HW.out.trans (hb.mono HW.out.size))
   clear hb
   have BP:=h! hXBP
   clear hXBP
   have BR:=h! hXBR
   clear hXBR
   obtain ⟨lB1,cB1,fB1⟩:=B1.out
   obtain ⟨lB2,cB2,fB2⟩:=B2.out
   obtain ⟨lBP,cBP,fBP⟩:=BP.out
   obtain ⟨lBR,cBR,fBR⟩:=BR.out
   clear hf
   go_upto_region 7 with (fail)
   clear lB1 cB1 fB1 lB2 cB2 fB2 lBP cBP fBP lBR cBR fBR
   have hO_:=((((Only.set wg (bBR) 0 (.int .i64 r.id)).put 1 (.int .i64 r.typ)).put 2 (.slice af2 r.src.length cf2)).put 3 (.slice av2 r.vals.length cv2))
   replace B1:=h! (B1.out.only hO_ (by first | assumption | (simp;done) | omega))
   replace B2:=h! (B2.out.only hO_ (by first | assumption | (simp;done) | omega))
   replace BP:=h! (BP.out.only hO_ (by first | assumption | (simp;done) | omega))
   replace HW:=h! (hO_.2.2 HW.out (by first | assumption | omega | (have:=HW.out.size;omega) | (simp;done) | (simp;omega)))
   replace BR:=h! (Box.to (A':=#[(.int .i64 r.id),(.int .i64 r.typ),(.slice af2 r.src.length cf2),(.slice av2 r.vals.length cv2)]) ((((BR.out.set 0 (.int .i64 r.id)).set 1 (.int .i64 r.typ)).set 2 (.slice af2 r.src.length cf2)).set 3 (.slice av2 r.vals.length cv2)) (by first | rfl | simp))
   clear hO_
   generalize ((((wg.setCell ⟨bBR,0,none⟩ (.int .i64 r.id)).setCell ⟨bBR,1,none⟩ (.int .i64 r.typ)).setCell ⟨bBR,2,none⟩ (.slice af2 r.src.length cf2)).setCell ⟨bBR,3,none⟩ (.slice av2 r.vals.length cv2))=w4 at *
   obtain ⟨lB1,cB1,fB1⟩:=B1.out
   obtain ⟨lB2,cB2,fB2⟩:=B2.out
   obtain ⟨lBP,cBP,fBP⟩:=BP.out
   obtain ⟨lBR,cBR,fBR⟩:=BR.out
   have HSRC:Hid (Ints w4 (.slice af p.src.length cf) p.src/\Ints w4 (.slice av p.vals.length cv) p.vals):=h! ⟨HP.out.src.below HW.out,HP.out.vals.below HW.out⟩
   have HSRC2:Hid (Ints w4 (.slice af2 r.src.length cf2) r.src/\Ints w4 (.slice av2 r.vals.length cv2) r.vals):=h! ⟨HP2.out.src.below HW.out,HP2.out.vals.below HW.out⟩
   have HNE:Hid (p ≠ r -> q=false):=h! (fun h=>by rw [HQ.out];exact decide_eq_false (fun e=>h (by have h9:=HPK.out;rw [e,HRK.out] at h9;cases h9;rfl)))
   clear HP HP2
   cases g1:(p.id != r.id)
   rotate_left
   ·skip
    have hqf:q=false:=HNE.out (fun e=>(by have h9:p.id ≠ r.id:=(by simpa using g1);exact h9 (by rw [e])))
    subst hqf
    go_wp2
    go_ret
    exact ⟨rfl,HW.out⟩
   cases g2:(p.typ != r.typ)
   rotate_left
   ·skip
    have hqf:q=false:=HNE.out (fun e=>(by have h9:p.typ ≠ r.typ:=(by simpa using g2);exact h9 (by rw [e])))
    subst hqf
    go_wp2
    go_ret
    exact ⟨rfl,HW.out⟩
   go_wp2_with fail
   refine (yI HSRC.out.1 HSRC2.out.1).mono ?_
   rintro e w5 ⟨rfl,hb⟩
   obtain ⟨c,hc⟩ : ∃ c,c=decide (p.src=r.src):=⟨_,rfl⟩
   rw [<-hc]
   have HC:=h! hc
   have HVA:Hid (Ints w5 (.slice av p.vals.length cv) p.vals/\Ints w5 (.slice av2 r.vals.length cv2) r.vals):=h! ⟨HSRC.out.2.below hb,HSRC2.out.2.below hb⟩
   clear hc HSRC HSRC2
   clear lB1 cB1 fB1 lB2 cB2 fB2 lBP cBP fBP lBR cBR fBR
   replace B1:=h! (B1.out.later hb)
   replace B2:=h! (B2.out.later hb)
   replace BP:=h! (BP.out.later hb)
   replace BR:=h! (BR.out.later hb)
   replace HW:=h! (HW.out.trans (hb.mono HW.out.size))
   clear hb
   obtain ⟨lB1,cB1,fB1⟩:=B1.out
   obtain ⟨lB2,cB2,fB2⟩:=B2.out
   obtain ⟨lBP,cBP,fBP⟩:=BP.out
   obtain ⟨lBR,cBR,fBR⟩:=BR.out
   cases c
   ·skip
    have hqf:q=false:=HNE.out (fun e=>(by have h9:=HC.out;simp [e] at h9))
    subst hqf
    go_wp2
    go_ret
    exact ⟨rfl,HW.out⟩
   go_wp2_with fail
   refine (yI HVA.out.1 HVA.out.2).mono ?_
   rintro e w6 ⟨rfl,hb⟩
   obtain ⟨c2,hc2⟩ : ∃ c2,c2=decide (p.vals=r.vals):=⟨_,rfl⟩
   rw [<-hc2]
   have HC2:=h! hc2
   clear hc2 HVA
   clear lB1 cB1 fB1 lB2 cB2 fB2 lBP cBP fBP lBR cBR fBR
   replace B1:=h! (B1.out.later hb)
   replace B2:=h! (B2.out.later hb)
   replace BP:=h! (BP.out.later hb)
   replace BR:=h! (BR.out.later hb)
   replace HW:=h! (HW.out.trans (hb.mono HW.out.size))
   clear hb
   obtain ⟨lB1,cB1,fB1⟩:=B1.out
   obtain ⟨lB2,cB2,fB2⟩:=B2.out
   obtain ⟨lBP,cBP,fBP⟩:=BP.out
   obtain ⟨lBR,cBR,fBR⟩:=BR.out
   cases c2
   ·skip
    have hqf:q=false:=HNE.out (fun e=>(by have h9:=HC2.out;simp [e] at h9))
    subst hqf
    go_wp2
    go_ret
    exact ⟨rfl,HW.out⟩
   have HPR:Hid (p=r):=h! (aFS (by simpa using g1) (by simpa using g2) (by simpa using HC.out.symm) (by simpa using HC2.out.symm))
   go_wp2
   go_roundw
   case rel =>
    refine ⟨k+1,hlt,by go_num,HW.out,B1.out,B2.out,fun j hj => ?_⟩
    by_cases e:j=k
    ·subst e;rw [HPK.out,HRK.out,HPR.out]
    exact HS.out j (by omega)
   simp [intOf];omega
  have HPH:Hid (x.phis=y.phis):=h! (oT HPL.out HPL2.out (fun j hj=>HS.out j (by omega)))
  clear HS HPX HPX2 HPA HPA2
  go_wp2_with fail
  go_loopw [8] (fun i wr => ∃ k:Nat,k <= cl/\i = .int .i64 k/\Below w.heap.size w wr/\Box wr w.heap.size #[.slice ap pl cp,.slice ac cl cc,.int .i64 o1,.int .i64 v1,.slice ta tl tc,.int .i64 n1]/\Box wr (w.heap.size+1) #[.slice ap2 pl cp2,.slice ac2 cl cc2,.int .i64 o2,.int .i64 v2,.slice ta2 tl2 tc2,.int .i64 n2] /\ ∀ j,j < k -> x.code[j]? = y.code[j]?) (fun i _=>cl - (intOf i).toNat)
  case atStart=>exact ⟨0,aJ _,rfl,HW.out,B1.out,B2.out,fun j h=>absurd h (eO _)⟩
  obtain ⟨k,hk,rfl,hW,hb1,hb2,hs⟩:=hrel
  clear lB1 cB1 fB1 lB2 cB2 fB2
  replace HW:=h! hW
  replace B1:=h! hb1
  replace B2:=h! hb2
  have HS:=h! hs
  clear hW hb1 hb2 hs
  obtain ⟨lB1,cB1,fB1⟩:=B1.out
  obtain ⟨lB2,cB2,fB2⟩:=B2.out
  by_cases hlt:k < cl
  ·obtain ⟨rfl,hbc⟩:=HCA.out (by omega)
   obtain ⟨rfl,hbc2⟩:=HCA2.out (by omega)
   obtain ⟨p,hpk⟩ : ∃ p,x.code[k]? = some p:=⟨_,aC (by have:=HCL.out;omega)⟩
   obtain ⟨r,hrk⟩ : ∃ r,y.code[k]? = some r:=⟨_,aC (by have:=HCL2.out;omega)⟩
   obtain ⟨af,cf,hP⟩:=HCX.out k p hpk
   obtain ⟨af2,cf2,hP2⟩:=HCX2.out k r hrk
   have HPK:=h! hpk
   have HRK:=h! hrk
   have HP:=h! hP
   have HP2:=h! hP2
   clear hpk hrk hP hP2
   go_upto_region 12 with (fail)
   refine Seven.wp_region_grow 13 (fun kz=>match kz with | 10=>some 12 | _=>none) (fun ν kz=>match kz with | 10=>.holds (Seven.MadeS (fun b=>.pointer (some ⟨b,0,none⟩)) #[.int .i64 0,.int .i64 0,.slice none 0 0,.int .i64 0]) | 11=>.holds (Seven.MadeS (fun b=>.pointer (some ⟨b,0,none⟩)) #[.int .i64 0,.int .i64 0,.slice none 0 0,.int .i64 0]) | 12=>.holds (Seven.FillS (ν 10).1 #[.int .i64 p.op,.int .i64 p.id,.slice af p.args.length cf,.int .i64 p.n]) | _=>.plain) (by kernel_rfl) (by kernel_rfl) ?_ ?_ ?_ (fun ν => ?_)
   ·(intro ν k;(try dsimp only);split <;> first | exact True.intro | (intro u φ w1 w2 D hu ho hoff hDb hlt hn;first | exact Seven.MadeS.off hu ho hoff | (exact hu.off ho hoff)))
   ·(intro ν ν' k h;first | rfl | ((try dsimp only);split <;> first | rfl | (rw [h 10 (by kernel_rfl)])))
   ·(intro j k h;(try dsimp only at h);split at h <;> first | (cases h;done) | (cases h;exact ⟨by kernel_rfl,by omega⟩))
   simp only [aQ,aU,aT,aY]
   iterate 4 (refine Seven.Grow.val (v := ?_) rfl rfl (fun wg hbg hdg => ?_) ?_;rotate_left;(focus ((obtain ⟨lg0,cg0,fg0⟩:=B1.out.later hbg);(obtain ⟨lg1,cg1,fg1⟩:=B2.out.later hbg);clear hbg hdg;first | (go_simp;done) | (go_simp;with_reducible rfl)));simp only [Act.put,aB,aE,aF])
   refine Seven.Grow.val (v := ?_) rfl rfl (fun wg hbg hdg => ?_) ?_
   rotate_left
   focus ((obtain ⟨lg0,cg0,fg0⟩:=B1.out.later hbg);(obtain ⟨lg1,cg1,fg1⟩:=B2.out.later hbg);(obtain ⟨m0,m1,m2,m3, -, -, -, -⟩:=HP.out.below (HW.out.trans (hbg.mono HW.out.size)) hbc);clear hbg hdg;first | (go_simp;done) | (go_simp;with_reducible rfl))
   simp only [Act.put,aB,aE,aF]
   iterate 4 (refine Seven.Grow.val (v := ?_) rfl rfl (fun wg hbg hdg => ?_) ?_;rotate_left;(focus ((obtain ⟨lg0,cg0,fg0⟩:=B1.out.later hbg);(obtain ⟨lg1,cg1,fg1⟩:=B2.out.later hbg);clear hbg hdg;first | (go_simp;done) | (go_simp;with_reducible rfl)));simp only [Act.put,aB,aE,aF])
   refine Seven.Grow.val (v := ?_) rfl rfl (fun wg hbg hdg => ?_) ?_
   rotate_left
   focus ((obtain ⟨lg0,cg0,fg0⟩:=B1.out.later hbg);(obtain ⟨lg1,cg1,fg1⟩:=B2.out.later hbg);(obtain ⟨m0,m1,m2,m3, -, -, -, -⟩:=HP2.out.below (HW.out.trans (hbg.mono HW.out.size)) hbc2);clear hbg hdg;first | (go_simp;done) | (go_simp;with_reducible rfl))
   simp only [Act.put,aB,aE,aF]
   iterate 2 (refine Seven.Grow.made (T := ?_) rfl rfl (fun wg hbg hdg => ?_) ?_;rotate_left;(focus ((obtain ⟨lg0,cg0,fg0⟩:=B1.out.later hbg);(obtain ⟨lg1,cg1,fg1⟩:=B2.out.later hbg);clear hbg hdg;first | (go_simp;done) | (go_simp;with_reducible rfl)));simp only [Act.put,Seven.Known.val,aB,aE,aF])
   refine Seven.Grow.turns rfl (by intro h;cases h) (fun wg hbg hdg => ?_) ?_
   focus ((have hMz:Seven.MadeS (fun b=>.pointer (some ⟨b,0,none⟩)) #[.int .i64 0,.int .i64 0,.slice none 0 0,.int .i64 0] (ν 10).1 (ν 10).2 wg:=hdg.fact 10 ⟨by kernel_rfl,.inr rfl⟩);(obtain ⟨bz,hbe,hφz,hXz⟩:=hMz);simp only [hbe];refine ⟨_, ?_,Foot.one bz,⟨bz,rfl,fun k=>Iff.rfl,(qN hXz (.int .i64 p.op) (.int .i64 p.id) (.slice af p.args.length cf) (.int .i64 p.n)).2⟩,(qO (qN hXz (.int .i64 p.op) (.int .i64 p.id) (.slice af p.args.length cf) (.int .i64 p.n)).1).mono (fun q _ hq=>⟨10,rfl,(hφz q).2 hq⟩),fun q hq=>⟨.inl ⟨10,rfl,(hφz q).2 hq⟩,by cases hq;exact (qN hXz (.int .i64 p.op) (.int .i64 p.id) (.slice af p.args.length cf) (.int .i64 p.n)).2.lt⟩⟩;obtain ⟨lgz,cgz,fgz⟩:=hXz;(obtain ⟨lg0,cg0,fg0⟩:=B1.out.later hbg);(obtain ⟨lg1,cg1,fg1⟩:=B2.out.later hbg);clear hbg hdg;first | (go_simp;done) | (go_simp;with_reducible rfl))
   simp only [Act.put,Seven.Known.val,aB,aE,aF]
   intro wg hb hf
   obtain ⟨bBP,hνBP,hφBP,hXBP⟩:=hf.fact 12 ⟨by omega,rfl⟩
   have hBBP:wr.heap.size <= bBP:=hf.base 12 bBP ⟨by omega,rfl⟩ ((hφBP bBP).2 rfl)
   have nBPB1:bBP ≠ w.heap.size:=fun e=>by have:=lB1;omega
   have nB1BP:w.heap.size ≠ bBP:=fun e=>nBPB1 e.symm
   have nBPB2:bBP ≠ w.heap.size+1:=fun e=>by have:=lB2;omega
   have nB2BP:w.heap.size+1 ≠ bBP:=fun e=>nBPB2 e.symm
   obtain ⟨bBR,hνBR,hφBR,hXBR⟩:=hf.fact 11 ⟨by omega,rfl⟩
   have hBBR:wr.heap.size <= bBR:=hf.base 11 bBR ⟨by omega,rfl⟩ ((hφBR bBR).2 rfl)
   have nBRB1:bBR ≠ w.heap.size:=fun e=>by have:=lB1;omega
   have nB1BR:w.heap.size ≠ bBR:=fun e=>nBRB1 e.symm
   have nBRB2:bBR ≠ w.heap.size+1:=fun e=>by have:=lB2;omega
   have nB2BR:w.heap.size+1 ≠ bBR:=fun e=>nBRB2 e.symm
   have nBPBR:bBP ≠ bBR:=fun e=>hf.apart 12 11 ⟨by omega,rfl⟩ ⟨by omega,rfl⟩ (by omega) bBP ((hφBP bBP).2 rfl) ((hφBR bBP).2 e)
   have nBRBP:bBR ≠ bBP:=fun e=>hf.apart 11 12 ⟨by omega,rfl⟩ ⟨by omega,rfl⟩ (by omega) bBR ((hφBR bBR).2 rfl) ((hφBP bBR).2 e)
   simp only [hνBP,hνBR]
   clear hνBP hνBR
   have gBP:=bI HW.out.size hBBP
   clear hBBP
   have gBR:=bI HW.out.size hBBR
   clear hBBR
   clear lB1 cB1 fB1 lB2 cB2 fB2
   have hbv:=hb
   replace B1:=h! (B1.out.later hb)
   replace B2:=h! (B2.out.later hb)
   replace HW:=h! (HW.out.trans (hb.mono HW.out.size))
   clear hb
   have BP:=h! hXBP
   clear hXBP
   have BR:=h! hXBR
   clear hXBR
   obtain ⟨lB1,cB1,fB1⟩:=B1.out
   obtain ⟨lB2,cB2,fB2⟩:=B2.out
   obtain ⟨lBP,cBP,fBP⟩:=BP.out
   obtain ⟨lBR,cBR,fBR⟩:=BR.out
   clear hf
   go_upto_region 13 with (fail)
   clear lB1 cB1 fB1 lB2 cB2 fB2 lBP cBP fBP lBR cBR fBR
   have hO_:=((((Only.set wg (bBR) 0 (.int .i64 r.op)).put 1 (.int .i64 r.id)).put 2 (.slice af2 r.args.length cf2)).put 3 (.int .i64 r.n))
   replace B1:=h! (B1.out.only hO_ (by first | assumption | (simp;done) | omega))
   replace B2:=h! (B2.out.only hO_ (by first | assumption | (simp;done) | omega))
   replace BP:=h! (BP.out.only hO_ (by first | assumption | (simp;done) | omega))
   replace HW:=h! (hO_.2.2 HW.out (by first | assumption | omega | (have:=HW.out.size;omega) | (simp;done) | (simp;omega)))
   replace BR:=h! (Box.to (A':=#[(.int .i64 r.op),(.int .i64 r.id),(.slice af2 r.args.length cf2),(.int .i64 r.n)]) ((((BR.out.set 0 (.int .i64 r.op)).set 1 (.int .i64 r.id)).set 2 (.slice af2 r.args.length cf2)).set 3 (.int .i64 r.n)) (by first | rfl | simp))
   clear hO_
   generalize ((((wg.setCell ⟨bBR,0,none⟩ (.int .i64 r.op)).setCell ⟨bBR,1,none⟩ (.int .i64 r.id)).setCell ⟨bBR,2,none⟩ (.slice af2 r.args.length cf2)).setCell ⟨bBR,3,none⟩ (.int .i64 r.n))=w4 at *
   obtain ⟨lB1,cB1,fB1⟩:=B1.out
   obtain ⟨lB2,cB2,fB2⟩:=B2.out
   obtain ⟨lBP,cBP,fBP⟩:=BP.out
   obtain ⟨lBR,cBR,fBR⟩:=BR.out
   have HSRC:Hid (Ints w4 (.slice af p.args.length cf) p.args/\Ints w4 (.slice af2 r.args.length cf2) r.args):=h! ⟨HP.out.args.below HW.out,HP2.out.args.below HW.out⟩
   have HNE:Hid (p ≠ r -> q=false):=h! (fun h=>by rw [HQ.out];exact decide_eq_false (fun e=>h (by have h9:=HPK.out;rw [e,HRK.out] at h9;cases h9;rfl)))
   clear HP HP2
   cases g1:(p.op != r.op)
   rotate_left
   ·skip
    have hqf:q=false:=HNE.out (fun e=>(by have h9:p.op ≠ r.op:=(by simpa using g1);exact h9 (by rw [e])))
    subst hqf
    go_wp2
    go_ret
    exact ⟨rfl,HW.out⟩
   cases g2:(p.id != r.id)
   rotate_left
   ·skip
    have hqf:q=false:=HNE.out (fun e=>(by have h9:p.id ≠ r.id:=(by simpa using g2);exact h9 (by rw [e])))
    subst hqf
    go_wp2
    go_ret
    exact ⟨rfl,HW.out⟩
   cases g3:(p.n != r.n)
   rotate_left
   ·skip
    have hqf:q=false:=HNE.out (fun e=>(by have h9:p.n ≠ r.n:=(by simpa using g3);exact h9 (by rw [e])))
    subst hqf
    go_wp2
    go_ret
    exact ⟨rfl,HW.out⟩
   go_wp2_with fail
   refine (yI HSRC.out.1 HSRC.out.2).mono ?_
   rintro e w5 ⟨rfl,hb⟩
   obtain ⟨c,hc⟩ : ∃ c,c=decide (p.args=r.args):=⟨_,rfl⟩
   rw [<-hc]
   have HC:=h! hc
   clear hc HSRC
   clear lB1 cB1 fB1 lB2 cB2 fB2 lBP cBP fBP lBR cBR fBR
   replace B1:=h! (B1.out.later hb)
   replace B2:=h! (B2.out.later hb)
   replace BP:=h! (BP.out.later hb)
   replace BR:=h! (BR.out.later hb)
   replace HW:=h! (HW.out.trans (hb.mono HW.out.size))
   clear hb
   obtain ⟨lB1,cB1,fB1⟩:=B1.out
   obtain ⟨lB2,cB2,fB2⟩:=B2.out
   obtain ⟨lBP,cBP,fBP⟩:=BP.out
   obtain ⟨lBR,cBR,fBR⟩:=BR.out
   cases c
   ·skip
    have hqf:q=false:=HNE.out (fun e=>(by have h9:=HC.out;simp [e] at h9))
    subst hqf
    go_wp2
    go_ret
    exact ⟨rfl,HW.out⟩
   have HPR:Hid (p=r):=h! (aCO (by simpa using g1) (by simpa using g2) (by simpa using HC.out.symm) (by simpa using g3))
   go_wp2
   go_roundw
   case rel =>
    refine ⟨k+1,hlt,by go_num,HW.out,B1.out,B2.out,fun j hj => ?_⟩
    by_cases e:j=k
    ·subst e;rw [HPK.out,HRK.out,HPR.out]
    exact HS.out j (by omega)
   simp [intOf];omega
  have HCO:Hid (x.code=y.code):=h! (oT HCL.out HCL2.out (fun j hj=>HS.out j (by omega)))
  have hqt:q=true:=by rw [HQ.out];exact decide_eq_true (aCN HPH.out HCO.out HEQ.out.1 HEQ.out.2.1 HEQ.out.2.2.1 HEQ.out.2.2.2)
  subst hqt
  go_wp2
  go_ret
  exact ⟨rfl,HW.out⟩
end Go.Proofs.YtagabiidbbhhmaaGreat
