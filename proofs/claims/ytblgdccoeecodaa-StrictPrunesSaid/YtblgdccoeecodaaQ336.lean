/- What the claim needs,part 36. -/
import Derived.Test.YtblgdccoeecodaaQ320
import Derived.Test.YtblgdccoeecodaaQ324
import Derived.Test.YtblgdccoeecodaaQ335
namespace Go.Proofs.Ytblgdccoeecodaa
set_option linter.unusedSimpArgs false
set_option linter.unusedVariables false
open Go.RowKit
theorem block_eq {x y:BlockD} (h1:x.phis=y.phis) (h2:x.code=y.code) (h3:x.term.op=y.term.op) (h4:x.term.val=y.term.val) (h5:x.term.to=y.term.to) (h6:x.term.n=y.term.n):x=y:=by
 obtain ⟨a,b,o,v,t,n⟩:=x
 obtain ⟨a',b',o',v',t',n'⟩:=y
 simp only at h1 h2 h3 h4 h5 h6
 subst h1 h2 h3 h4 h5 h6
 rfl
theorem phi_eq {x y:PhiD} (h1:x.id=y.id) (h2:x.typ=y.typ) (h3:x.src=y.src) (h4:x.vals=y.vals):x=y:=by
 obtain ⟨a,b,c,d⟩:=x
 obtain ⟨a',b',c',d'⟩:=y
 simp only at h1 h2 h3 h4
 subst h1 h2 h3 h4
 rfl
theorem instr_eq {x y:InstrD} (h1:x.op=y.op) (h2:x.id=y.id) (h3:x.args=y.args) (h4:x.n=y.n):x=y:=by
 obtain ⟨a,b,c,d⟩:=x
 obtain ⟨a',b',c',d'⟩:=y
 simp only at h1 h2 h3 h4
 subst h1 h2 h3 h4
 rfl
theorem list_same {α : Type} {xs ys:List α} {n:Nat} (h1:n=xs.length) (h2:n=ys.length) (h:∀ j,j < n -> xs[j]? = ys[j]?):xs=ys:=by
 apply List.ext_getElem?
 intro j
 by_cases hj:j < n
 ·exact h j hj
 ·rw [List.getElem?_eq_none (by omega),List.getElem?_eq_none (by omega)]
set_option maxHeartbeats 25600000 in
set_option maxRecDepth 100000 in
theorem refSameBlock {w:World} {v u:Value} {x y:BlockD} (hv:BlockV w v x) (hu:BlockV w u y) :
  Calls Try.prog 40 #[v,u] w fun e w'=>e = .returned (.bool (decide (x=y)))/\Below w.heap.size w w':=by
 obtain ⟨⟨pv,uv,tv,rfl,hp,hc,ht⟩, -, -, -⟩:=hv
 obtain ⟨⟨pv2,uv2,tv2,rfl,hp2,hc2,ht2⟩, -, -, -⟩:=hu
 obtain ⟨ap,cp,bp,op_,rfl,hpc,hpm, -,hpa,hpx⟩:=phis_parts hp
 obtain ⟨ac,cc,bc,oc,rfl,hcc,hcm, -,hca,hcx⟩:=code_parts hc
 obtain ⟨ta,tc,rfl⟩:=ht.form
 obtain ⟨ap2,cp2,bp2,op2,rfl,hpc2,hpm2, -,hpa2,hpx2⟩:=phis_parts hp2
 obtain ⟨ac2,cc2,bc2,oc2,rfl,hcc2,hcm2, -,hca2,hcx2⟩:=code_parts hc2
 obtain ⟨ta2,tc2,rfl⟩:=ht2.form
 obtain ⟨pl,hpl⟩ : ∃ n,n=x.phis.length:=⟨_,rfl⟩
 obtain ⟨cl,hcl⟩ : ∃ n,n=x.code.length:=⟨_,rfl⟩
 obtain ⟨tl,htl⟩ : ∃ n,n=x.term.to.length:=⟨_,rfl⟩
 obtain ⟨pl2,hpl2⟩ : ∃ n,n=y.phis.length:=⟨_,rfl⟩
 obtain ⟨cl2,hcl2⟩ : ∃ n,n=y.code.length:=⟨_,rfl⟩
 obtain ⟨tl2,htl2⟩ : ∃ n,n=y.term.to.length:=⟨_,rfl⟩
 obtain ⟨o1,ho1⟩ : ∃ n,n=x.term.op:=⟨_,rfl⟩
 obtain ⟨v1,hv1⟩ : ∃ n,n=x.term.val:=⟨_,rfl⟩
 obtain ⟨n1,hn1⟩ : ∃ n,n=x.term.n:=⟨_,rfl⟩
 obtain ⟨o2,ho2⟩ : ∃ n,n=y.term.op:=⟨_,rfl⟩
 obtain ⟨v2,hv2⟩ : ∃ n,n=y.term.val:=⟨_,rfl⟩
 obtain ⟨n2,hn2⟩ : ∃ n,n=y.term.n:=⟨_,rfl⟩
 obtain ⟨q,hq⟩ : ∃ q,q=decide (x=y):=⟨_,rfl⟩
 rw [<-hq, <-hpl, <-hcl, <-htl, <-hpl2, <-hcl2, <-htl2, <-ho1, <-hv1, <-hn1, <-ho2, <-hv2, <-hn2]
 rw [<-hpl] at hpc hpa
 rw [<-hcl] at hcc hca
 rw [<-hpl2] at hpc2 hpa2
 rw [<-hcl2] at hcc2 hca2
 rw [<-htl] at ht
 rw [<-htl2] at ht2
 have HQ:=Lib.hid hq
 have HPL:=Lib.hid hpl
 have HCL:=Lib.hid hcl
 have HPL2:=Lib.hid hpl2
 have HCL2:=Lib.hid hcl2
 have HO1:=Lib.hid ho1
 have HV1:=Lib.hid hv1
 have HN1:=Lib.hid hn1
 have HO2:=Lib.hid ho2
 have HV2:=Lib.hid hv2
 have HN2:=Lib.hid hn2
 have HPA:=Lib.hid hpa
 have HPX:=Lib.hid hpx
 have HCA:=Lib.hid hca
 have HCX:=Lib.hid hcx
 have HPA2:=Lib.hid hpa2
 have HPX2:=Lib.hid hpx2
 have HCA2:=Lib.hid hca2
 have HCX2:=Lib.hid hcx2
 have HT1:=Lib.hid ht
 have HT2:=Lib.hid ht2
 clear hp hc ht hp2 hc2 ht2 hq hpl hcl htl hpl2 hcl2 htl2 ho1 hv1 hn1 ho2 hv2 hn2 hpa hpx hca hcx hpa2 hpx2 hca2 hcx2
 go_enter Try.func40,Try.ntmps40
 go_upto_region 1 with (fail)
 have B1:Hid (Box ((w.alloc (.cells #[.slice ap pl cp,.slice ac cl cc,.int .i64 o1,.int .i64 v1,.slice ta tl tc,.int .i64 n1] 56)).alloc (.cells #[.slice ap2 pl2 cp2,.slice ac2 cl2 cc2,.int .i64 o2,.int .i64 v2,.slice ta2 tl2 tc2,.int .i64 n2] 56)) (w.heap.size) #[.slice ap pl cp,.slice ac cl cc,.int .i64 o1,.int .i64 v1,.slice ta tl tc,.int .i64 n1]):=Lib.hid (by simpa using ((Box.new w #[.slice ap pl cp,.slice ac cl cc,.int .i64 o1,.int .i64 v1,.slice ta tl tc,.int .i64 n1] 56).alloc _))
 have B2:Hid (Box ((w.alloc (.cells #[.slice ap pl cp,.slice ac cl cc,.int .i64 o1,.int .i64 v1,.slice ta tl tc,.int .i64 n1] 56)).alloc (.cells #[.slice ap2 pl2 cp2,.slice ac2 cl2 cc2,.int .i64 o2,.int .i64 v2,.slice ta2 tl2 tc2,.int .i64 n2] 56)) (w.heap.size+1) #[.slice ap2 pl2 cp2,.slice ac2 cl2 cc2,.int .i64 o2,.int .i64 v2,.slice ta2 tl2 tc2,.int .i64 n2]):=Lib.hid (by simpa using (Box.new (w.alloc (.cells #[.slice ap pl cp,.slice ac cl cc,.int .i64 o1,.int .i64 v1,.slice ta tl tc,.int .i64 n1] 56)) #[.slice ap2 pl2 cp2,.slice ac2 cl2 cc2,.int .i64 o2,.int .i64 v2,.slice ta2 tl2 tc2,.int .i64 n2] 56))
 have HW:Hid (Below w.heap.size w ((w.alloc (.cells #[.slice ap pl cp,.slice ac cl cc,.int .i64 o1,.int .i64 v1,.slice ta tl tc,.int .i64 n1] 56)).alloc (.cells #[.slice ap2 pl2 cp2,.slice ac2 cl2 cc2,.int .i64 o2,.int .i64 v2,.slice ta2 tl2 tc2,.int .i64 n2] 56))):=Lib.hid (((Below.refl _ _).alloc (Nat.le_refl _) _).alloc (by simp) _)
 generalize ((w.alloc (.cells #[.slice ap pl cp,.slice ac cl cc,.int .i64 o1,.int .i64 v1,.slice ta tl tc,.int .i64 n1] 56)).alloc (.cells #[.slice ap2 pl2 cp2,.slice ac2 cl2 cc2,.int .i64 o2,.int .i64 v2,.slice ta2 tl2 tc2,.int .i64 n2] 56))=wv at *
 obtain ⟨lB1,cB1,fB1⟩:=B1.out
 obtain ⟨lB2,cB2,fB2⟩:=B2.out
 cases h1:((pl:Int) != (pl2:Int))
 rotate_left
 ·skip
  have hqf:q=false:=by rw [HQ.out];exact decide_eq_false (fun e=>(by have h9:pl ≠ pl2:=(by simp at h1;omega);exact h9 (by rw [HPL.out,HPL2.out,e])))
  subst hqf
  go_wp2
  go_ret
  exact ⟨rfl,HW.out⟩
 cases h2:((cl:Int) != (cl2:Int))
 rotate_left
 ·skip
  have hqf:q=false:=by rw [HQ.out];exact decide_eq_false (fun e=>(by have h9:cl ≠ cl2:=(by simp at h2;omega);exact h9 (by rw [HCL.out,HCL2.out,e])))
  subst hqf
  go_wp2
  go_ret
  exact ⟨rfl,HW.out⟩
 cases h3:(o1 != o2)
 rotate_left
 ·skip
  have hqf:q=false:=by rw [HQ.out];exact decide_eq_false (fun e=>(by have h9:o1 ≠ o2:=(by simpa using h3);exact h9 (by rw [HO1.out,HO2.out,e])))
  subst hqf
  go_wp2
  go_ret
  exact ⟨rfl,HW.out⟩
 cases h4:(v1 != v2)
 rotate_left
 ·skip
  have hqf:q=false:=by rw [HQ.out];exact decide_eq_false (fun e=>(by have h9:v1 ≠ v2:=(by simpa using h4);exact h9 (by rw [HV1.out,HV2.out,e])))
  subst hqf
  go_wp2
  go_ret
  exact ⟨rfl,HW.out⟩
 cases h5:(n1 != n2)
 rotate_left
 ·skip
  have hqf:q=false:=by rw [HQ.out];exact decide_eq_false (fun e=>(by have h9:n1 ≠ n2:=(by simpa using h5);exact h9 (by rw [HN1.out,HN2.out,e])))
  subst hqf
  go_wp2
  go_ret
  exact ⟨rfl,HW.out⟩
 go_wp2_with fail
 refine (sameB (HT1.out.below HW.out) (HT2.out.below HW.out)).mono ?_
 rintro e w2 ⟨rfl,hb⟩
 obtain ⟨c,hc⟩ : ∃ c,c=decide (x.term.to=y.term.to):=⟨_,rfl⟩
 rw [<-hc]
 have HC:=Lib.hid hc
 clear hc
 clear lB1 cB1 fB1 lB2 cB2 fB2
 replace B1:=Lib.hid (B1.out.later hb)
 replace B2:=Lib.hid (B2.out.later hb)
 replace HW:=Lib.hid (HW.out.trans (hb.mono HW.out.size))
 clear hb
 obtain ⟨lB1,cB1,fB1⟩:=B1.out
 obtain ⟨lB2,cB2,fB2⟩:=B2.out
 cases c
 ·skip
  have hqf:q=false:=by rw [HQ.out];exact decide_eq_false (fun e=>(by have h9:=HC.out;simp [e] at h9))
  subst hqf
  go_wp2
  go_ret
  exact ⟨rfl,HW.out⟩
 have HEQ:Hid (x.term.op=y.term.op/\x.term.val=y.term.val/\x.term.to=y.term.to/\x.term.n=y.term.n):=Lib.hid ⟨by rw [<-HO1.out, <-HO2.out];simpa using h3,by rw [<-HV1.out, <-HV2.out];simpa using h4,by simpa using HC.out.symm,by rw [<-HN1.out, <-HN2.out];simpa using h5⟩
 obtain rfl:pl=pl2:=by simp at h1;omega
 obtain rfl:cl=cl2:=by simp at h2;omega
 clear HC HO1 HV1 HN1 HO2 HV2 HN2 HT1 HT2
 go_wp2_with fail
 clear h1 h2 h3 h4 h5
 go_loopw [5] (fun i wr => ∃ k:Nat,k <= pl/\i = .int .i64 k/\Below w.heap.size w wr/\Box wr w.heap.size #[.slice ap pl cp,.slice ac cl cc,.int .i64 o1,.int .i64 v1,.slice ta tl tc,.int .i64 n1]/\Box wr (w.heap.size+1) #[.slice ap2 pl cp2,.slice ac2 cl cc2,.int .i64 o2,.int .i64 v2,.slice ta2 tl2 tc2,.int .i64 n2] /\ ∀ j,j < k -> x.phis[j]? = y.phis[j]?) (fun i _=>pl - (intOf i).toNat)
 case atStart=>exact ⟨0,Nat.zero_le _,rfl,HW.out,B1.out,B2.out,fun j h=>absurd h (Nat.not_lt_zero _)⟩
 case round =>
  obtain ⟨k,hk,rfl,hW,hb1,hb2,hs⟩:=hrel
  clear lB1 cB1 fB1 lB2 cB2 fB2
  replace HW:=Lib.hid hW
  replace B1:=Lib.hid hb1
  replace B2:=Lib.hid hb2
  have HS:=Lib.hid hs
  clear hW hb1 hb2 hs

  obtain ⟨lB1,cB1,fB1⟩:=B1.out
  obtain ⟨lB2,cB2,fB2⟩:=B2.out
  by_cases hlt:k < pl
  ·obtain ⟨rfl,hbp⟩:=HPA.out (by omega)
   obtain ⟨rfl,hbp2⟩:=HPA2.out (by omega)


   obtain ⟨p,hpk⟩ : ∃ p,x.phis[k]? = some p:=⟨_,List.getElem?_eq_getElem (by have:=HPL.out;omega)⟩
   obtain ⟨r,hrk⟩ : ∃ r,y.phis[k]? = some r:=⟨_,List.getElem?_eq_getElem (by have:=HPL2.out;omega)⟩
   obtain ⟨af,av,cf,cv,hP⟩:=HPX.out k p hpk
   obtain ⟨af2,av2,cf2,cv2,hP2⟩:=HPX2.out k r hrk
   have HPK:=Lib.hid hpk
   have HRK:=Lib.hid hrk
   have HP:=Lib.hid hP
   have HP2:=Lib.hid hP2
   clear hpk hrk hP hP2
   go_upto_region 6 with (fail)
   refine Six.wp_region_grow (φ := 12) (m0:=10) (A':=#[.int .i64 p.id,.int .i64 p.typ,.slice af p.src.length cf,.slice av p.vals.length cv]) 13 (fun kz=>match kz with | 10=>.made wr.heap.size (fun b=>.pointer (some ⟨b,0,none⟩)) #[.int .i64 0,.int .i64 0,.slice none 0 0,.slice none 0 0] | 11=>.made wr.heap.size (fun b=>.pointer (some ⟨b,0,none⟩)) #[.int .i64 0,.int .i64 0,.slice none 0 0,.slice none 0 0] | _=>.plain) (by kernel_rfl) (by kernel_rfl) ?_ ?_ rfl (by omega) (by omega) (by kernel_rfl) (fun ν => ?_)
   ·(intro k;(try dsimp only);split <;> first | exact True.intro | (intro u w1 w2 hu hb;exact hu.below hb))
   ·(intro k S hk;(try dsimp only at hk);split at hk <;> first | (cases hk;done) | (cases hk;intro u w1 w2 b h0 h1 h2;exact h1))
   simp only [List.take_succ_cons,List.take_zero,List.drop_succ_cons,List.drop_zero]
   iterate 4 (refine Six.Grow.val (v := ?_) (by omega) rfl rfl (fun wg hbg hdg => ?_) ?_;rotate_left;(focus ((obtain ⟨lg0,cg0,fg0⟩:=B1.out.later hbg);(obtain ⟨lg1,cg1,fg1⟩:=B2.out.later hbg);clear hbg hdg;first | (go_simp;done) | (go_simp;with_reducible rfl)));simp only [Act.put,List.setIfInBounds_toArray,List.set_cons_zero,List.set_cons_succ])
   refine Six.Grow.val (v := ?_) (by omega) rfl rfl (fun wg hbg hdg => ?_) ?_
   rotate_left
   focus ((obtain ⟨lg0,cg0,fg0⟩:=B1.out.later hbg);(obtain ⟨lg1,cg1,fg1⟩:=B2.out.later hbg);(obtain ⟨m0,m1,m2,m3, -, -, -, -⟩:=HP.out.below (HW.out.trans (hbg.mono HW.out.size)) hbp);clear hbg hdg;first | (go_simp;done) | (go_simp;with_reducible rfl))
   simp only [Act.put,List.setIfInBounds_toArray,List.set_cons_zero,List.set_cons_succ]
   iterate 4 (refine Six.Grow.val (v := ?_) (by omega) rfl rfl (fun wg hbg hdg => ?_) ?_;rotate_left;(focus ((obtain ⟨lg0,cg0,fg0⟩:=B1.out.later hbg);(obtain ⟨lg1,cg1,fg1⟩:=B2.out.later hbg);clear hbg hdg;first | (go_simp;done) | (go_simp;with_reducible rfl)));simp only [Act.put,List.setIfInBounds_toArray,List.set_cons_zero,List.set_cons_succ])
   refine Six.Grow.val (v := ?_) (by omega) rfl rfl (fun wg hbg hdg => ?_) ?_
   rotate_left
   focus ((obtain ⟨lg0,cg0,fg0⟩:=B1.out.later hbg);(obtain ⟨lg1,cg1,fg1⟩:=B2.out.later hbg);(obtain ⟨m0,m1,m2,m3, -, -, -, -⟩:=HP2.out.below (HW.out.trans (hbg.mono HW.out.size)) hbp2);clear hbg hdg;first | (go_simp;done) | (go_simp;with_reducible rfl))
   simp only [Act.put,List.setIfInBounds_toArray,List.set_cons_zero,List.set_cons_succ]
   iterate 2 (refine Six.Grow.made (T := ?_) (by omega) rfl rfl (fun wg hbg hdg => ?_) ?_;rotate_left;(focus ((obtain ⟨lg0,cg0,fg0⟩:=B1.out.later hbg);(obtain ⟨lg1,cg1,fg1⟩:=B2.out.later hbg);clear hbg hdg;first | (go_simp;done) | (go_simp;with_reducible rfl)));simp only [Act.put,Known.val,List.setIfInBounds_toArray,List.set_cons_zero,List.set_cons_succ])
   refine Six.Grow.fill (by omega) rfl rfl (fun wg bz hbg hdg hbe hBz hXz => ?_) ?_
   focus (simp only [hbe];refine ⟨_, ?_,(fill4 hXz (.int .i64 p.id) (.int .i64 p.typ) (.slice af p.src.length cf) (.slice av p.vals.length cv)).1,(fill4 hXz (.int .i64 p.id) (.int .i64 p.typ) (.slice af p.src.length cf) (.slice av p.vals.length cv)).2⟩;obtain ⟨lgz,cgz,fgz⟩:=hXz;(obtain ⟨lg0,cg0,fg0⟩:=B1.out.later hbg);(obtain ⟨lg1,cg1,fg1⟩:=B2.out.later hbg);clear hbg hdg;first | (go_simp;done) | (go_simp;with_reducible rfl))
   simp only [Act.put,List.setIfInBounds_toArray,List.set_cons_zero,List.set_cons_succ]
   intro wg hb hf hfull hap
   obtain ⟨bBP,hνBP,hBBP,hXBP⟩:=hfull
   have nBPB1:bBP ≠ w.heap.size:=fun e=>by have:=lB1;omega
   have nB1BP:w.heap.size ≠ bBP:=fun e=>nBPB1 e.symm
   have nBPB2:bBP ≠ w.heap.size+1:=fun e=>by have:=lB2;omega
   have nB2BP:w.heap.size+1 ≠ bBP:=fun e=>nBPB2 e.symm
   obtain ⟨bBR,hνBR,hBBR,hXBR⟩:=hf 11 (by omega) (by omega)
   have nBRB1:bBR ≠ w.heap.size:=fun e=>by have:=lB1;omega
   have nB1BR:w.heap.size ≠ bBR:=fun e=>nBRB1 e.symm
   have nBRB2:bBR ≠ w.heap.size+1:=fun e=>by have:=lB2;omega
   have nB2BR:w.heap.size+1 ≠ bBR:=fun e=>nBRB2 e.symm
   have nBPBR:bBP ≠ bBR:=fun e=>hap 10 11 (by omega) (by omega) (by omega) rfl rfl (by rw [hνBP,hνBR,e])
   have nBRBP:bBR ≠ bBP:=fun e=>hap 11 10 (by omega) (by omega) (by omega) rfl rfl (by rw [hνBR,hνBP,e])
   simp only [hνBP,hνBR]
   clear hνBP hνBR
   clear hap
   have gBP:=Nat.le_trans HW.out.size hBBP
   clear hBBP
   have gBR:=Nat.le_trans HW.out.size hBBR
   clear hBBR
   clear lB1 cB1 fB1 lB2 cB2 fB2
   replace B1:=Lib.hid (B1.out.later hb)
   replace B2:=Lib.hid (B2.out.later hb)
   replace HW:=Lib.hid (HW.out.trans (hb.mono HW.out.size))
   clear hb
   have BP:=Lib.hid hXBP
   clear hXBP
   have BR:=Lib.hid hXBR
   clear hXBR
   obtain ⟨lB1,cB1,fB1⟩:=B1.out
   obtain ⟨lB2,cB2,fB2⟩:=B2.out
   obtain ⟨lBP,cBP,fBP⟩:=BP.out
   obtain ⟨lBR,cBR,fBR⟩:=BR.out
   clear hf
   go_upto_region 7 with (fail)
   have B1_:Box ((((wg.setCell ⟨bBR,0,none⟩ (.int .i64 r.id)).setCell ⟨bBR,1,none⟩ (.int .i64 r.typ)).setCell ⟨bBR,2,none⟩ (.slice af2 r.src.length cf2)).setCell ⟨bBR,3,none⟩ (.slice av2 r.vals.length cv2)) (w.heap.size) #[.slice (some ⟨bp,op_,none⟩) pl cp,.slice ac cl cc,.int .i64 o1,.int .i64 v1,.slice ta tl tc,.int .i64 n1]:=by simpa using ((((B1.out.other (p:=⟨bBR,0,none⟩) (.int .i64 r.id) (by first | assumption | (simp;done) | omega | (dsimp only;omega))).other (p:=⟨bBR,1,none⟩) (.int .i64 r.typ) (by first | assumption | (simp;done) | omega | (dsimp only;omega))).other (p:=⟨bBR,2,none⟩) (.slice af2 r.src.length cf2) (by first | assumption | (simp;done) | omega | (dsimp only;omega))).other (p:=⟨bBR,3,none⟩) (.slice av2 r.vals.length cv2) (by first | assumption | (simp;done) | omega | (dsimp only;omega)))
   have B2_:Box ((((wg.setCell ⟨bBR,0,none⟩ (.int .i64 r.id)).setCell ⟨bBR,1,none⟩ (.int .i64 r.typ)).setCell ⟨bBR,2,none⟩ (.slice af2 r.src.length cf2)).setCell ⟨bBR,3,none⟩ (.slice av2 r.vals.length cv2)) (w.heap.size+1) #[.slice (some ⟨bp2,op2,none⟩) pl cp2,.slice ac2 cl cc2,.int .i64 o2,.int .i64 v2,.slice ta2 tl2 tc2,.int .i64 n2]:=by simpa using ((((B2.out.other (p:=⟨bBR,0,none⟩) (.int .i64 r.id) (by first | assumption | (simp;done) | omega | (dsimp only;omega))).other (p:=⟨bBR,1,none⟩) (.int .i64 r.typ) (by first | assumption | (simp;done) | omega | (dsimp only;omega))).other (p:=⟨bBR,2,none⟩) (.slice af2 r.src.length cf2) (by first | assumption | (simp;done) | omega | (dsimp only;omega))).other (p:=⟨bBR,3,none⟩) (.slice av2 r.vals.length cv2) (by first | assumption | (simp;done) | omega | (dsimp only;omega)))
   have BP_:Box ((((wg.setCell ⟨bBR,0,none⟩ (.int .i64 r.id)).setCell ⟨bBR,1,none⟩ (.int .i64 r.typ)).setCell ⟨bBR,2,none⟩ (.slice af2 r.src.length cf2)).setCell ⟨bBR,3,none⟩ (.slice av2 r.vals.length cv2)) (bBP) #[.int .i64 p.id,.int .i64 p.typ,.slice af p.src.length cf,.slice av p.vals.length cv]:=by simpa using ((((BP.out.other (p:=⟨bBR,0,none⟩) (.int .i64 r.id) (by first | assumption | (simp;done) | omega | (dsimp only;omega))).other (p:=⟨bBR,1,none⟩) (.int .i64 r.typ) (by first | assumption | (simp;done) | omega | (dsimp only;omega))).other (p:=⟨bBR,2,none⟩) (.slice af2 r.src.length cf2) (by first | assumption | (simp;done) | omega | (dsimp only;omega))).other (p:=⟨bBR,3,none⟩) (.slice av2 r.vals.length cv2) (by first | assumption | (simp;done) | omega | (dsimp only;omega)))
   have BR_:Box ((((wg.setCell ⟨bBR,0,none⟩ (.int .i64 r.id)).setCell ⟨bBR,1,none⟩ (.int .i64 r.typ)).setCell ⟨bBR,2,none⟩ (.slice af2 r.src.length cf2)).setCell ⟨bBR,3,none⟩ (.slice av2 r.vals.length cv2)) (bBR) #[(.int .i64 r.id),(.int .i64 r.typ),(.slice af2 r.src.length cf2),(.slice av2 r.vals.length cv2)]:=by simpa using ((((BR.out.set 0 (.int .i64 r.id)).set 1 (.int .i64 r.typ)).set 2 (.slice af2 r.src.length cf2)).set 3 (.slice av2 r.vals.length cv2))
   have HW_:Below w.heap.size w ((((wg.setCell ⟨bBR,0,none⟩ (.int .i64 r.id)).setCell ⟨bBR,1,none⟩ (.int .i64 r.typ)).setCell ⟨bBR,2,none⟩ (.slice af2 r.src.length cf2)).setCell ⟨bBR,3,none⟩ (.slice av2 r.vals.length cv2)):=((((HW.out.setCell (p:=⟨bBR,0,none⟩) (by first | assumption | omega | (dsimp only;omega) | (have:=HW.out.size;omega) | (simp;done) | (simp;omega)) (.int .i64 r.id)).setCell (p:=⟨bBR,1,none⟩) (by first | assumption | omega | (dsimp only;omega) | (have:=HW.out.size;omega) | (simp;done) | (simp;omega)) (.int .i64 r.typ)).setCell (p:=⟨bBR,2,none⟩) (by first | assumption | omega | (dsimp only;omega) | (have:=HW.out.size;omega) | (simp;done) | (simp;omega)) (.slice af2 r.src.length cf2)).setCell (p:=⟨bBR,3,none⟩) (by first | assumption | omega | (dsimp only;omega) | (have:=HW.out.size;omega) | (simp;done) | (simp;omega)) (.slice av2 r.vals.length cv2))
   clear lB1 cB1 fB1 lB2 cB2 fB2 lBP cBP fBP lBR cBR fBR
   clear B1 B2 BP BR HW
   generalize ((((wg.setCell ⟨bBR,0,none⟩ (.int .i64 r.id)).setCell ⟨bBR,1,none⟩ (.int .i64 r.typ)).setCell ⟨bBR,2,none⟩ (.slice af2 r.src.length cf2)).setCell ⟨bBR,3,none⟩ (.slice av2 r.vals.length cv2))=w4 at *
   have B1:=Lib.hid B1_
   clear B1_
   have B2:=Lib.hid B2_
   clear B2_
   have BP:=Lib.hid BP_
   clear BP_
   have BR:=Lib.hid BR_
   clear BR_
   have HW:=Lib.hid HW_
   clear HW_
   obtain ⟨lB1,cB1,fB1⟩:=B1.out
   obtain ⟨lB2,cB2,fB2⟩:=B2.out
   obtain ⟨lBP,cBP,fBP⟩:=BP.out
   obtain ⟨lBR,cBR,fBR⟩:=BR.out
   have HSRC:Hid (Ints w4 (.slice af p.src.length cf) p.src/\Ints w4 (.slice av p.vals.length cv) p.vals):=Lib.hid ⟨HP.out.src.below HW.out,HP.out.vals.below HW.out⟩
   have HSRC2:Hid (Ints w4 (.slice af2 r.src.length cf2) r.src/\Ints w4 (.slice av2 r.vals.length cv2) r.vals):=Lib.hid ⟨HP2.out.src.below HW.out,HP2.out.vals.below HW.out⟩
   have HNE:Hid (p ≠ r -> q=false):=Lib.hid (fun h=>by rw [HQ.out];exact decide_eq_false (fun e=>h (by have h9:=HPK.out;rw [e,HRK.out] at h9;cases h9;rfl)))
   clear HP HP2
   cases g1:(p.id != r.id)
   rotate_left
   ·skip
    have hqf:q=false:=HNE.out (fun e=>(by have h9:p.id ≠ r.id:=(by simpa using g1);exact h9 (by rw [e])))
    subst hqf
    go_wp2
    go_ret
    exact ⟨rfl,HW.out⟩
   cases g2:(p.typ != r.typ)
   rotate_left
   ·skip
    have hqf:q=false:=HNE.out (fun e=>(by have h9:p.typ ≠ r.typ:=(by simpa using g2);exact h9 (by rw [e])))
    subst hqf
    go_wp2
    go_ret
    exact ⟨rfl,HW.out⟩
   go_wp2_with fail
   refine (sameB HSRC.out.1 HSRC2.out.1).mono ?_
   rintro e w5 ⟨rfl,hb⟩
   obtain ⟨c,hc⟩ : ∃ c,c=decide (p.src=r.src):=⟨_,rfl⟩
   rw [<-hc]
   have HC:=Lib.hid hc
   have HVA:Hid (Ints w5 (.slice av p.vals.length cv) p.vals/\Ints w5 (.slice av2 r.vals.length cv2) r.vals):=Lib.hid ⟨HSRC.out.2.below hb,HSRC2.out.2.below hb⟩
   clear hc HSRC HSRC2
   clear lB1 cB1 fB1 lB2 cB2 fB2 lBP cBP fBP lBR cBR fBR
   replace B1:=Lib.hid (B1.out.later hb)
   replace B2:=Lib.hid (B2.out.later hb)
   replace BP:=Lib.hid (BP.out.later hb)
   replace BR:=Lib.hid (BR.out.later hb)
   replace HW:=Lib.hid (HW.out.trans (hb.mono HW.out.size))
   clear hb
   obtain ⟨lB1,cB1,fB1⟩:=B1.out
   obtain ⟨lB2,cB2,fB2⟩:=B2.out
   obtain ⟨lBP,cBP,fBP⟩:=BP.out
   obtain ⟨lBR,cBR,fBR⟩:=BR.out
   cases c
   ·skip
    have hqf:q=false:=HNE.out (fun e=>(by have h9:=HC.out;simp [e] at h9))
    subst hqf
    go_wp2
    go_ret
    exact ⟨rfl,HW.out⟩
   go_wp2_with fail
   refine (sameB HVA.out.1 HVA.out.2).mono ?_
   rintro e w6 ⟨rfl,hb⟩
   obtain ⟨c2,hc2⟩ : ∃ c2,c2=decide (p.vals=r.vals):=⟨_,rfl⟩
   rw [<-hc2]
   have HC2:=Lib.hid hc2
   clear hc2 HVA
   clear lB1 cB1 fB1 lB2 cB2 fB2 lBP cBP fBP lBR cBR fBR
   replace B1:=Lib.hid (B1.out.later hb)
   replace B2:=Lib.hid (B2.out.later hb)
   replace BP:=Lib.hid (BP.out.later hb)
   replace BR:=Lib.hid (BR.out.later hb)
   replace HW:=Lib.hid (HW.out.trans (hb.mono HW.out.size))
   clear hb
   obtain ⟨lB1,cB1,fB1⟩:=B1.out
   obtain ⟨lB2,cB2,fB2⟩:=B2.out
   obtain ⟨lBP,cBP,fBP⟩:=BP.out
   obtain ⟨lBR,cBR,fBR⟩:=BR.out
   cases c2
   ·skip
    have hqf:q=false:=HNE.out (fun e=>(by have h9:=HC2.out;simp [e] at h9))
    subst hqf
    go_wp2
    go_ret
    exact ⟨rfl,HW.out⟩
   have HPR:Hid (p=r):=Lib.hid (phi_eq (by simpa using g1) (by simpa using g2) (by simpa using HC.out.symm) (by simpa using HC2.out.symm))
   go_wp2
   go_roundw
   case rel =>
    refine ⟨k+1,hlt,by go_num,HW.out,B1.out,B2.out,fun j hj => ?_⟩
    by_cases e:j=k
    ·subst e;rw [HPK.out,HRK.out,HPR.out]
    ·exact HS.out j (by omega)
   case measure=>simp [intOf];omega
  ·have HPH:Hid (x.phis=y.phis):=Lib.hid (list_same HPL.out HPL2.out (fun j hj=>HS.out j (by omega)))
   clear HS HPX HPX2 HPA HPA2


   go_wp2_with fail
   go_loopw [8] (fun i wr => ∃ k:Nat,k <= cl/\i = .int .i64 k/\Below w.heap.size w wr/\Box wr w.heap.size #[.slice ap pl cp,.slice ac cl cc,.int .i64 o1,.int .i64 v1,.slice ta tl tc,.int .i64 n1]/\Box wr (w.heap.size+1) #[.slice ap2 pl cp2,.slice ac2 cl cc2,.int .i64 o2,.int .i64 v2,.slice ta2 tl2 tc2,.int .i64 n2] /\ ∀ j,j < k -> x.code[j]? = y.code[j]?) (fun i _=>cl - (intOf i).toNat)
   case atStart=>exact ⟨0,Nat.zero_le _,rfl,HW.out,B1.out,B2.out,fun j h=>absurd h (Nat.not_lt_zero _)⟩
   case round =>
    obtain ⟨k,hk,rfl,hW,hb1,hb2,hs⟩:=hrel
    clear lB1 cB1 fB1 lB2 cB2 fB2
    replace HW:=Lib.hid hW
    replace B1:=Lib.hid hb1
    replace B2:=Lib.hid hb2
    have HS:=Lib.hid hs
    clear hW hb1 hb2 hs

    obtain ⟨lB1,cB1,fB1⟩:=B1.out
    obtain ⟨lB2,cB2,fB2⟩:=B2.out
    by_cases hlt:k < cl
    ·obtain ⟨rfl,hbc⟩:=HCA.out (by omega)
     obtain ⟨rfl,hbc2⟩:=HCA2.out (by omega)


     obtain ⟨p,hpk⟩ : ∃ p,x.code[k]? = some p:=⟨_,List.getElem?_eq_getElem (by have:=HCL.out;omega)⟩
     obtain ⟨r,hrk⟩ : ∃ r,y.code[k]? = some r:=⟨_,List.getElem?_eq_getElem (by have:=HCL2.out;omega)⟩
     obtain ⟨af,cf,hP⟩:=HCX.out k p hpk
     obtain ⟨af2,cf2,hP2⟩:=HCX2.out k r hrk
     have HPK:=Lib.hid hpk
     have HRK:=Lib.hid hrk
     have HP:=Lib.hid hP
     have HP2:=Lib.hid hP2
     clear hpk hrk hP hP2
     go_upto_region 12 with (fail)
     refine Six.wp_region_grow (φ := 12) (m0:=10) (A':=#[.int .i64 p.op,.int .i64 p.id,.slice af p.args.length cf,.int .i64 p.n]) 13 (fun kz=>match kz with | 10=>.made wr.heap.size (fun b=>.pointer (some ⟨b,0,none⟩)) #[.int .i64 0,.int .i64 0,.slice none 0 0,.int .i64 0] | 11=>.made wr.heap.size (fun b=>.pointer (some ⟨b,0,none⟩)) #[.int .i64 0,.int .i64 0,.slice none 0 0,.int .i64 0] | _=>.plain) (by kernel_rfl) (by kernel_rfl) ?_ ?_ rfl (by omega) (by omega) (by kernel_rfl) (fun ν => ?_)
     ·(intro k;(try dsimp only);split <;> first | exact True.intro | (intro u w1 w2 hu hb;exact hu.below hb))
     ·(intro k S hk;(try dsimp only at hk);split at hk <;> first | (cases hk;done) | (cases hk;intro u w1 w2 b h0 h1 h2;exact h1))
     simp only [List.take_succ_cons,List.take_zero,List.drop_succ_cons,List.drop_zero]
     iterate 4 (refine Six.Grow.val (v := ?_) (by omega) rfl rfl (fun wg hbg hdg => ?_) ?_;rotate_left;(focus ((obtain ⟨lg0,cg0,fg0⟩:=B1.out.later hbg);(obtain ⟨lg1,cg1,fg1⟩:=B2.out.later hbg);clear hbg hdg;first | (go_simp;done) | (go_simp;with_reducible rfl)));simp only [Act.put,List.setIfInBounds_toArray,List.set_cons_zero,List.set_cons_succ])
     refine Six.Grow.val (v := ?_) (by omega) rfl rfl (fun wg hbg hdg => ?_) ?_
     rotate_left
     focus ((obtain ⟨lg0,cg0,fg0⟩:=B1.out.later hbg);(obtain ⟨lg1,cg1,fg1⟩:=B2.out.later hbg);(obtain ⟨m0,m1,m2,m3, -, -, -, -⟩:=HP.out.below (HW.out.trans (hbg.mono HW.out.size)) hbc);clear hbg hdg;first | (go_simp;done) | (go_simp;with_reducible rfl))
     simp only [Act.put,List.setIfInBounds_toArray,List.set_cons_zero,List.set_cons_succ]
     iterate 4 (refine Six.Grow.val (v := ?_) (by omega) rfl rfl (fun wg hbg hdg => ?_) ?_;rotate_left;(focus ((obtain ⟨lg0,cg0,fg0⟩:=B1.out.later hbg);(obtain ⟨lg1,cg1,fg1⟩:=B2.out.later hbg);clear hbg hdg;first | (go_simp;done) | (go_simp;with_reducible rfl)));simp only [Act.put,List.setIfInBounds_toArray,List.set_cons_zero,List.set_cons_succ])
     refine Six.Grow.val (v := ?_) (by omega) rfl rfl (fun wg hbg hdg => ?_) ?_
     rotate_left
     focus ((obtain ⟨lg0,cg0,fg0⟩:=B1.out.later hbg);(obtain ⟨lg1,cg1,fg1⟩:=B2.out.later hbg);(obtain ⟨m0,m1,m2,m3, -, -, -, -⟩:=HP2.out.below (HW.out.trans (hbg.mono HW.out.size)) hbc2);clear hbg hdg;first | (go_simp;done) | (go_simp;with_reducible rfl))
     simp only [Act.put,List.setIfInBounds_toArray,List.set_cons_zero,List.set_cons_succ]
     iterate 2 (refine Six.Grow.made (T := ?_) (by omega) rfl rfl (fun wg hbg hdg => ?_) ?_;rotate_left;(focus ((obtain ⟨lg0,cg0,fg0⟩:=B1.out.later hbg);(obtain ⟨lg1,cg1,fg1⟩:=B2.out.later hbg);clear hbg hdg;first | (go_simp;done) | (go_simp;with_reducible rfl)));simp only [Act.put,Known.val,List.setIfInBounds_toArray,List.set_cons_zero,List.set_cons_succ])
     refine Six.Grow.fill (by omega) rfl rfl (fun wg bz hbg hdg hbe hBz hXz => ?_) ?_
     focus (simp only [hbe];refine ⟨_, ?_,(fill4 hXz (.int .i64 p.op) (.int .i64 p.id) (.slice af p.args.length cf) (.int .i64 p.n)).1,(fill4 hXz (.int .i64 p.op) (.int .i64 p.id) (.slice af p.args.length cf) (.int .i64 p.n)).2⟩;obtain ⟨lgz,cgz,fgz⟩:=hXz;(obtain ⟨lg0,cg0,fg0⟩:=B1.out.later hbg);(obtain ⟨lg1,cg1,fg1⟩:=B2.out.later hbg);clear hbg hdg;first | (go_simp;done) | (go_simp;with_reducible rfl))
     simp only [Act.put,List.setIfInBounds_toArray,List.set_cons_zero,List.set_cons_succ]
     intro wg hb hf hfull hap
     obtain ⟨bBP,hνBP,hBBP,hXBP⟩:=hfull
     have nBPB1:bBP ≠ w.heap.size:=fun e=>by have:=lB1;omega
     have nB1BP:w.heap.size ≠ bBP:=fun e=>nBPB1 e.symm
     have nBPB2:bBP ≠ w.heap.size+1:=fun e=>by have:=lB2;omega
     have nB2BP:w.heap.size+1 ≠ bBP:=fun e=>nBPB2 e.symm
     obtain ⟨bBR,hνBR,hBBR,hXBR⟩:=hf 11 (by omega) (by omega)
     have nBRB1:bBR ≠ w.heap.size:=fun e=>by have:=lB1;omega
     have nB1BR:w.heap.size ≠ bBR:=fun e=>nBRB1 e.symm
     have nBRB2:bBR ≠ w.heap.size+1:=fun e=>by have:=lB2;omega
     have nB2BR:w.heap.size+1 ≠ bBR:=fun e=>nBRB2 e.symm
     have nBPBR:bBP ≠ bBR:=fun e=>hap 10 11 (by omega) (by omega) (by omega) rfl rfl (by rw [hνBP,hνBR,e])
     have nBRBP:bBR ≠ bBP:=fun e=>hap 11 10 (by omega) (by omega) (by omega) rfl rfl (by rw [hνBR,hνBP,e])
     simp only [hνBP,hνBR]
     clear hνBP hνBR
     clear hap
     have gBP:=Nat.le_trans HW.out.size hBBP
     clear hBBP
     have gBR:=Nat.le_trans HW.out.size hBBR
     clear hBBR
     clear lB1 cB1 fB1 lB2 cB2 fB2
     replace B1:=Lib.hid (B1.out.later hb)
     replace B2:=Lib.hid (B2.out.later hb)
     replace HW:=Lib.hid (HW.out.trans (hb.mono HW.out.size))
     clear hb
     have BP:=Lib.hid hXBP
     clear hXBP
     have BR:=Lib.hid hXBR
     clear hXBR
     obtain ⟨lB1,cB1,fB1⟩:=B1.out
     obtain ⟨lB2,cB2,fB2⟩:=B2.out
     obtain ⟨lBP,cBP,fBP⟩:=BP.out
     obtain ⟨lBR,cBR,fBR⟩:=BR.out
     clear hf
     go_upto_region 13 with (fail)
     have B1_:Box ((((wg.setCell ⟨bBR,0,none⟩ (.int .i64 r.op)).setCell ⟨bBR,1,none⟩ (.int .i64 r.id)).setCell ⟨bBR,2,none⟩ (.slice af2 r.args.length cf2)).setCell ⟨bBR,3,none⟩ (.int .i64 r.n)) (w.heap.size) #[.slice ap pl cp,.slice (some ⟨bc,oc,none⟩) cl cc,.int .i64 o1,.int .i64 v1,.slice ta tl tc,.int .i64 n1]:=by simpa using ((((B1.out.other (p:=⟨bBR,0,none⟩) (.int .i64 r.op) (by first | assumption | (simp;done) | omega | (dsimp only;omega))).other (p:=⟨bBR,1,none⟩) (.int .i64 r.id) (by first | assumption | (simp;done) | omega | (dsimp only;omega))).other (p:=⟨bBR,2,none⟩) (.slice af2 r.args.length cf2) (by first | assumption | (simp;done) | omega | (dsimp only;omega))).other (p:=⟨bBR,3,none⟩) (.int .i64 r.n) (by first | assumption | (simp;done) | omega | (dsimp only;omega)))
     have B2_:Box ((((wg.setCell ⟨bBR,0,none⟩ (.int .i64 r.op)).setCell ⟨bBR,1,none⟩ (.int .i64 r.id)).setCell ⟨bBR,2,none⟩ (.slice af2 r.args.length cf2)).setCell ⟨bBR,3,none⟩ (.int .i64 r.n)) (w.heap.size+1) #[.slice ap2 pl cp2,.slice (some ⟨bc2,oc2,none⟩) cl cc2,.int .i64 o2,.int .i64 v2,.slice ta2 tl2 tc2,.int .i64 n2]:=by simpa using ((((B2.out.other (p:=⟨bBR,0,none⟩) (.int .i64 r.op) (by first | assumption | (simp;done) | omega | (dsimp only;omega))).other (p:=⟨bBR,1,none⟩) (.int .i64 r.id) (by first | assumption | (simp;done) | omega | (dsimp only;omega))).other (p:=⟨bBR,2,none⟩) (.slice af2 r.args.length cf2) (by first | assumption | (simp;done) | omega | (dsimp only;omega))).other (p:=⟨bBR,3,none⟩) (.int .i64 r.n) (by first | assumption | (simp;done) | omega | (dsimp only;omega)))
     have BP_:Box ((((wg.setCell ⟨bBR,0,none⟩ (.int .i64 r.op)).setCell ⟨bBR,1,none⟩ (.int .i64 r.id)).setCell ⟨bBR,2,none⟩ (.slice af2 r.args.length cf2)).setCell ⟨bBR,3,none⟩ (.int .i64 r.n)) (bBP) #[.int .i64 p.op,.int .i64 p.id,.slice af p.args.length cf,.int .i64 p.n]:=by simpa using ((((BP.out.other (p:=⟨bBR,0,none⟩) (.int .i64 r.op) (by first | assumption | (simp;done) | omega | (dsimp only;omega))).other (p:=⟨bBR,1,none⟩) (.int .i64 r.id) (by first | assumption | (simp;done) | omega | (dsimp only;omega))).other (p:=⟨bBR,2,none⟩) (.slice af2 r.args.length cf2) (by first | assumption | (simp;done) | omega | (dsimp only;omega))).other (p:=⟨bBR,3,none⟩) (.int .i64 r.n) (by first | assumption | (simp;done) | omega | (dsimp only;omega)))
     have BR_:Box ((((wg.setCell ⟨bBR,0,none⟩ (.int .i64 r.op)).setCell ⟨bBR,1,none⟩ (.int .i64 r.id)).setCell ⟨bBR,2,none⟩ (.slice af2 r.args.length cf2)).setCell ⟨bBR,3,none⟩ (.int .i64 r.n)) (bBR) #[(.int .i64 r.op),(.int .i64 r.id),(.slice af2 r.args.length cf2),(.int .i64 r.n)]:=by simpa using ((((BR.out.set 0 (.int .i64 r.op)).set 1 (.int .i64 r.id)).set 2 (.slice af2 r.args.length cf2)).set 3 (.int .i64 r.n))
     have HW_:Below w.heap.size w ((((wg.setCell ⟨bBR,0,none⟩ (.int .i64 r.op)).setCell ⟨bBR,1,none⟩ (.int .i64 r.id)).setCell ⟨bBR,2,none⟩ (.slice af2 r.args.length cf2)).setCell ⟨bBR,3,none⟩ (.int .i64 r.n)):=((((HW.out.setCell (p:=⟨bBR,0,none⟩) (by first | assumption | omega | (dsimp only;omega) | (have:=HW.out.size;omega) | (simp;done) | (simp;omega)) (.int .i64 r.op)).setCell (p:=⟨bBR,1,none⟩) (by first | assumption | omega | (dsimp only;omega) | (have:=HW.out.size;omega) | (simp;done) | (simp;omega)) (.int .i64 r.id)).setCell (p:=⟨bBR,2,none⟩) (by first | assumption | omega | (dsimp only;omega) | (have:=HW.out.size;omega) | (simp;done) | (simp;omega)) (.slice af2 r.args.length cf2)).setCell (p:=⟨bBR,3,none⟩) (by first | assumption | omega | (dsimp only;omega) | (have:=HW.out.size;omega) | (simp;done) | (simp;omega)) (.int .i64 r.n))
     clear lB1 cB1 fB1 lB2 cB2 fB2 lBP cBP fBP lBR cBR fBR
     clear B1 B2 BP BR HW
     generalize ((((wg.setCell ⟨bBR,0,none⟩ (.int .i64 r.op)).setCell ⟨bBR,1,none⟩ (.int .i64 r.id)).setCell ⟨bBR,2,none⟩ (.slice af2 r.args.length cf2)).setCell ⟨bBR,3,none⟩ (.int .i64 r.n))=w4 at *
     have B1:=Lib.hid B1_
     clear B1_
     have B2:=Lib.hid B2_
     clear B2_
     have BP:=Lib.hid BP_
     clear BP_
     have BR:=Lib.hid BR_
     clear BR_
     have HW:=Lib.hid HW_
     clear HW_
     obtain ⟨lB1,cB1,fB1⟩:=B1.out
     obtain ⟨lB2,cB2,fB2⟩:=B2.out
     obtain ⟨lBP,cBP,fBP⟩:=BP.out
     obtain ⟨lBR,cBR,fBR⟩:=BR.out
     have HSRC:Hid (Ints w4 (.slice af p.args.length cf) p.args/\Ints w4 (.slice af2 r.args.length cf2) r.args):=Lib.hid ⟨HP.out.args.below HW.out,HP2.out.args.below HW.out⟩
     have HNE:Hid (p ≠ r -> q=false):=Lib.hid (fun h=>by rw [HQ.out];exact decide_eq_false (fun e=>h (by have h9:=HPK.out;rw [e,HRK.out] at h9;cases h9;rfl)))
     clear HP HP2
     cases g1:(p.op != r.op)
     rotate_left
     ·skip
      have hqf:q=false:=HNE.out (fun e=>(by have h9:p.op ≠ r.op:=(by simpa using g1);exact h9 (by rw [e])))
      subst hqf
      go_wp2
      go_ret
      exact ⟨rfl,HW.out⟩
     cases g2:(p.id != r.id)
     rotate_left
     ·skip
      have hqf:q=false:=HNE.out (fun e=>(by have h9:p.id ≠ r.id:=(by simpa using g2);exact h9 (by rw [e])))
      subst hqf
      go_wp2
      go_ret
      exact ⟨rfl,HW.out⟩
     cases g3:(p.n != r.n)
     rotate_left
     ·skip
      have hqf:q=false:=HNE.out (fun e=>(by have h9:p.n ≠ r.n:=(by simpa using g3);exact h9 (by rw [e])))
      subst hqf
      go_wp2
      go_ret
      exact ⟨rfl,HW.out⟩
     go_wp2_with fail
     refine (sameB HSRC.out.1 HSRC.out.2).mono ?_
     rintro e w5 ⟨rfl,hb⟩
     obtain ⟨c,hc⟩ : ∃ c,c=decide (p.args=r.args):=⟨_,rfl⟩
     rw [<-hc]
     have HC:=Lib.hid hc
     clear hc HSRC
     clear lB1 cB1 fB1 lB2 cB2 fB2 lBP cBP fBP lBR cBR fBR
     replace B1:=Lib.hid (B1.out.later hb)
     replace B2:=Lib.hid (B2.out.later hb)
     replace BP:=Lib.hid (BP.out.later hb)
     replace BR:=Lib.hid (BR.out.later hb)
     replace HW:=Lib.hid (HW.out.trans (hb.mono HW.out.size))
     clear hb
     obtain ⟨lB1,cB1,fB1⟩:=B1.out
     obtain ⟨lB2,cB2,fB2⟩:=B2.out
     obtain ⟨lBP,cBP,fBP⟩:=BP.out
     obtain ⟨lBR,cBR,fBR⟩:=BR.out
     cases c
     ·skip
      have hqf:q=false:=HNE.out (fun e=>(by have h9:=HC.out;simp [e] at h9))
      subst hqf
      go_wp2
      go_ret
      exact ⟨rfl,HW.out⟩
     have HPR:Hid (p=r):=Lib.hid (instr_eq (by simpa using g1) (by simpa using g2) (by simpa using HC.out.symm) (by simpa using g3))
     go_wp2
     go_roundw
     case rel =>
      refine ⟨k+1,hlt,by go_num,HW.out,B1.out,B2.out,fun j hj => ?_⟩
      by_cases e:j=k
      ·subst e;rw [HPK.out,HRK.out,HPR.out]
      ·exact HS.out j (by omega)
     case measure=>simp [intOf];omega
    ·have HCO:Hid (x.code=y.code):=Lib.hid (list_same HCL.out HCL2.out (fun j hj=>HS.out j (by omega)))
     have hqt:q=true:=by rw [HQ.out];exact decide_eq_true (block_eq HPH.out HCO.out HEQ.out.1 HEQ.out.2.1 HEQ.out.2.2.1 HEQ.out.2.2.2)
     subst hqt
     go_wp2
     go_ret
     exact ⟨rfl,HW.out⟩
end Go.Proofs.Ytblgdccoeecodaa
