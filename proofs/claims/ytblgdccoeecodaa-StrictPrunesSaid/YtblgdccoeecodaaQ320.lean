/- What the claim needs,part 20. -/
import Derived.Test.YtblgdccoeecodaaQ319
namespace Go.Proofs.Ytblgdccoeecodaa
set_option linter.unusedSimpArgs false
set_option linter.unusedVariables false
open Go.RowKit
structure BlockV (W:World) (v:Value) (x:BlockD):Prop where
 ex:∃ pv uv tv,v = .agg #[pv,uv,.int .i64 x.term.op,.int .i64 x.term.val,tv,.int .i64 x.term.n]/\SliceOf PhiR 4 W pv x.phis/\SliceOf InstrR 4 W uv x.code/\Ints W tv x.term.to
 op:In64 x.term.op
 val:In64 x.term.val
 n:In64 x.term.n
theorem BlockV.below {W W' : World} {v:Value} {x:BlockD} (h:BlockV W v x) (hb:Below W.heap.size W W'):BlockV W' v x:=by
 obtain ⟨⟨pv,uv,tv,e,h1,h2,h3⟩,a,b,c⟩:=h
 exact ⟨⟨pv,uv,tv,e,h1.below PhiR.lasting hb,h2.below InstrR.lasting hb,h3.below hb⟩,a,b,c⟩
theorem BlockC.blockV {W:World} {b o:Nat} {x:BlockD} {ap ai at_:Option Addr} {cp ci ct:Nat} (h:BlockC W b o x ap ai at_ cp ci ct):BlockV W (.agg #[.slice ap x.phis.length cp,.slice ai x.code.length ci,.int .i64 x.term.op,.int .i64 x.term.val,.slice at_ x.term.to.length ct,.int .i64 x.term.n]) x :=
 ⟨⟨_,_,_,rfl,h.phis,h.code,h.to⟩,h.op64,h.val64,h.n64⟩
def CopyBR (x:BlockD) (w:World) (e:Ending) (w' : World):Prop :=
 ∃ (pv uv tv:Value) (S:Foot),e = .returned (.agg #[pv,uv,.int .i64 x.term.op,.int .i64 x.term.val,tv,.int .i64 x.term.n])/\OBlock w' S [pv,uv,.int .i64 x.term.op,.int .i64 x.term.val,tv,.int .i64 x.term.n] x/\Fresh w.heap.size S/\Below w.heap.size w w'
set_option maxHeartbeats 25600000 in
set_option maxRecDepth 100000 in
theorem copyBlock {w:World} {v:Value} {x:BlockD} (hv:BlockV w v x) (hp1:x.phis.length <= 100000) (hc1:x.code.length <= 100000):Calls Try.prog 77 #[v] w (CopyBR x w):=by
 have HX:=Lib.hid hv
 obtain ⟨⟨pv,uv,tv,rfl,hp,hc,ht⟩, -, -, -⟩:=hv
 obtain ⟨ap,cp,bp,op_,rfl,hpc,hpm,hpl16,hpa,hpx⟩:=phis_parts hp
 obtain ⟨ac,cc,bc,oc,rfl,hcc,hcm,hcl16,hca,hcx⟩:=code_parts hc
 obtain ⟨ta,tc,rfl⟩:=ht.form
 obtain ⟨tl,htl⟩ : ∃ n,n=x.term.to.length:=⟨_,rfl⟩
 rw [<-htl] at ht
 have HTL:=Lib.hid htl
 obtain ⟨pl,hpl⟩ : ∃ n,n=x.phis.length:=⟨_,rfl⟩
 obtain ⟨cl,hcl⟩ : ∃ n,n=x.code.length:=⟨_,rfl⟩
 obtain ⟨op,hop⟩ : ∃ n,n=x.term.op:=⟨_,rfl⟩
 obtain ⟨val,hval⟩ : ∃ n,n=x.term.val:=⟨_,rfl⟩
 obtain ⟨tn,htn⟩ : ∃ n,n=x.term.n:=⟨_,rfl⟩
 have HTE:Hid (op=x.term.op/\val=x.term.val/\tn=x.term.n):=Lib.hid ⟨hop,hval,htn⟩
 unfold CopyBR
 rw [<-hop, <-hval, <-htn]
 rw [<-hpl] at hp1 hpc hpa ⊢
 rw [<-hcl] at hc1 hcc hca ⊢
 have HPL:=Lib.hid hpl
 have HCL:=Lib.hid hcl
 have HPA:=Lib.hid hpa
 have HPX:=Lib.hid hpx
 have HCA:=Lib.hid hca
 have HCX:=Lib.hid hcx
 have HTV:=Lib.hid ht
 rw [<-htl] at HX
 rw [<-htl]
 clear hp hc ht htl hpa hpx hca hcx hpl hcl hop hval htn hpl16 hcl16
 go_enter Try.func77,Try.ntmps77
 go_upto_region 2 with (fail)
 have B1:Hid (Box (((w.alloc (.cells #[.slice ap pl cp,.slice ac cl cc,.int .i64 op,.int .i64 val,.slice ta tl tc,.int .i64 tn] 56)).alloc (.cells #[.slice none 0 0,.slice none 0 0,.int .i64 0,.int .i64 0,.slice none 0 0,.int .i64 0] 56)).alloc (.cells #[.slice none 0 0,.slice none 0 0,.int .i64 op,.int .i64 val,.slice ta tl tc,.int .i64 tn] 56)) (w.heap.size) #[.slice ap pl cp,.slice ac cl cc,.int .i64 op,.int .i64 val,.slice ta tl tc,.int .i64 tn]):=Lib.hid (by simpa using (((Box.new w #[.slice ap pl cp,.slice ac cl cc,.int .i64 op,.int .i64 val,.slice ta tl tc,.int .i64 tn] 56).alloc _).alloc _))
 have B2:Hid (Box (((w.alloc (.cells #[.slice ap pl cp,.slice ac cl cc,.int .i64 op,.int .i64 val,.slice ta tl tc,.int .i64 tn] 56)).alloc (.cells #[.slice none 0 0,.slice none 0 0,.int .i64 0,.int .i64 0,.slice none 0 0,.int .i64 0] 56)).alloc (.cells #[.slice none 0 0,.slice none 0 0,.int .i64 op,.int .i64 val,.slice ta tl tc,.int .i64 tn] 56)) (w.heap.size+1) #[.slice none 0 0,.slice none 0 0,.int .i64 0,.int .i64 0,.slice none 0 0,.int .i64 0]):=Lib.hid (by simpa using ((Box.new (w.alloc (.cells #[.slice ap pl cp,.slice ac cl cc,.int .i64 op,.int .i64 val,.slice ta tl tc,.int .i64 tn] 56)) #[.slice none 0 0,.slice none 0 0,.int .i64 0,.int .i64 0,.slice none 0 0,.int .i64 0] 56).alloc _))
 have B3:Hid (Box (((w.alloc (.cells #[.slice ap pl cp,.slice ac cl cc,.int .i64 op,.int .i64 val,.slice ta tl tc,.int .i64 tn] 56)).alloc (.cells #[.slice none 0 0,.slice none 0 0,.int .i64 0,.int .i64 0,.slice none 0 0,.int .i64 0] 56)).alloc (.cells #[.slice none 0 0,.slice none 0 0,.int .i64 op,.int .i64 val,.slice ta tl tc,.int .i64 tn] 56)) (w.heap.size+1+1) #[.slice none 0 0,.slice none 0 0,.int .i64 op,.int .i64 val,.slice ta tl tc,.int .i64 tn]):=Lib.hid (by simpa using (Box.new ((w.alloc (.cells #[.slice ap pl cp,.slice ac cl cc,.int .i64 op,.int .i64 val,.slice ta tl tc,.int .i64 tn] 56)).alloc (.cells #[.slice none 0 0,.slice none 0 0,.int .i64 0,.int .i64 0,.slice none 0 0,.int .i64 0] 56)) #[.slice none 0 0,.slice none 0 0,.int .i64 op,.int .i64 val,.slice ta tl tc,.int .i64 tn] 56))
 have HW:Hid (Below w.heap.size w (((w.alloc (.cells #[.slice ap pl cp,.slice ac cl cc,.int .i64 op,.int .i64 val,.slice ta tl tc,.int .i64 tn] 56)).alloc (.cells #[.slice none 0 0,.slice none 0 0,.int .i64 0,.int .i64 0,.slice none 0 0,.int .i64 0] 56)).alloc (.cells #[.slice none 0 0,.slice none 0 0,.int .i64 op,.int .i64 val,.slice ta tl tc,.int .i64 tn] 56))):=Lib.hid ((((Below.refl _ _).alloc (Nat.le_refl _) _).alloc (by simp) _).alloc (by simp;omega) _)
 generalize (((w.alloc (.cells #[.slice ap pl cp,.slice ac cl cc,.int .i64 op,.int .i64 val,.slice ta tl tc,.int .i64 tn] 56)).alloc (.cells #[.slice none 0 0,.slice none 0 0,.int .i64 0,.int .i64 0,.slice none 0 0,.int .i64 0] 56)).alloc (.cells #[.slice none 0 0,.slice none 0 0,.int .i64 op,.int .i64 val,.slice ta tl tc,.int .i64 tn] 56))=wv at *
 obtain ⟨lB1,cB1,fB1⟩:=B1.out
 obtain ⟨lB2,cB2,fB2⟩:=B2.out
 obtain ⟨lB3,cB3,fB3⟩:=B3.out
 go_wp2_with fail
 refine (cloneI (HTV.out.below HW.out)).mono ?_
 rintro e w2 ⟨tv2,ST,rfl,hI,hF,hb⟩
 obtain ⟨ta2,tc2,rfl⟩:=hI.ints.form
 rw [<-HTL.out] at hI ⊢
 have HTS:Hid (Holds [w.heap.size,w.heap.size+1,w.heap.size+1+1] (w.heap.size+3) w2 ST (fun W=>OInts W ST (.slice ta2 tl tc2) x.term.to)):=Lib.hid (((holds_ints hI hF).from (by have:=B3.out.lt;omega)).low (by simp))
 clear hI hF
 clear lB1 cB1 fB1 lB2 cB2 fB2 lB3 cB3 fB3
 replace B1:=Lib.hid (B1.out.later hb)
 replace B2:=Lib.hid (B2.out.later hb)
 replace B3:=Lib.hid (B3.out.later hb)
 replace HW:=Lib.hid (HW.out.trans (hb.mono HW.out.size))
 clear hb
 obtain ⟨lB1,cB1,fB1⟩:=B1.out
 obtain ⟨lB2,cB2,fB2⟩:=B2.out
 obtain ⟨lB3,cB3,fB3⟩:=B3.out

 go_upto_region 3 with (fail)
 have B1_:Box (w2.setCell ⟨w.heap.size+1+1,4,none⟩ (.slice ta2 tl tc2)) (w.heap.size) #[.slice ap pl cp,.slice ac cl cc,.int .i64 op,.int .i64 val,.slice ta tl tc,.int .i64 tn]:=by simpa using (B1.out.other (p:=⟨w.heap.size+1+1,4,none⟩) (.slice ta2 tl tc2) (by first | assumption | (simp;done) | omega | (dsimp only;omega)))
 have B2_:Box (w2.setCell ⟨w.heap.size+1+1,4,none⟩ (.slice ta2 tl tc2)) (w.heap.size+1) #[.slice none 0 0,.slice none 0 0,.int .i64 0,.int .i64 0,.slice none 0 0,.int .i64 0]:=by simpa using (B2.out.other (p:=⟨w.heap.size+1+1,4,none⟩) (.slice ta2 tl tc2) (by first | assumption | (simp;done) | omega | (dsimp only;omega)))
 have B3_:Box (w2.setCell ⟨w.heap.size+1+1,4,none⟩ (.slice ta2 tl tc2)) (w.heap.size+1+1) #[.slice none 0 0,.slice none 0 0,.int .i64 op,.int .i64 val,(.slice ta2 tl tc2),.int .i64 tn]:=by simpa using (B3.out.set 4 (.slice ta2 tl tc2))
 have HTS_:=(HTS.out.other (p:=⟨w.heap.size+1+1,4,none⟩) (.slice ta2 tl tc2) (by simp))
 have HW_:Below w.heap.size w (w2.setCell ⟨w.heap.size+1+1,4,none⟩ (.slice ta2 tl tc2)):=(HW.out.setCell (p:=⟨w.heap.size+1+1,4,none⟩) (by first | assumption | omega | (dsimp only;omega) | (have:=HW.out.size;omega) | (simp;done) | (simp;omega)) (.slice ta2 tl tc2))
 clear lB1 cB1 fB1 lB2 cB2 fB2 lB3 cB3 fB3
 clear B1 B2 B3 HTS HW
 generalize (w2.setCell ⟨w.heap.size+1+1,4,none⟩ (.slice ta2 tl tc2))=w3 at *
 have B1:=Lib.hid B1_
 clear B1_
 have B2:=Lib.hid B2_
 clear B2_
 have B3:=Lib.hid B3_
 clear B3_
 have HTS:=Lib.hid HTS_
 clear HTS_
 have HW:=Lib.hid HW_
 clear HW_
 obtain ⟨lB1,cB1,fB1⟩:=B1.out
 obtain ⟨lB2,cB2,fB2⟩:=B2.out
 obtain ⟨lB3,cB3,fB3⟩:=B3.out
 go_wp2_with fail
 go_loopw [20] (fun i wr => ∃ (j:Nat) (vj:Value) (SP:Foot),j <= pl/\i = .int .i64 j/\Below w.heap.size w wr/\Box wr w.heap.size #[.slice ap pl cp,.slice ac cl cc,.int .i64 op,.int .i64 val,.slice ta tl tc,.int .i64 tn]/\Box wr (w.heap.size+1) #[.slice none 0 0,.slice none 0 0,.int .i64 0,.int .i64 0,.slice none 0 0,.int .i64 0]/\Box wr (w.heap.size+1+1) #[vj,.slice none 0 0,.int .i64 op,.int .i64 val,.slice ta2 tl tc2,.int .i64 tn] /\
   Holds [w.heap.size,w.heap.size+1,w.heap.size+1+1] (w.heap.size+3) wr ST (fun W=>OInts W ST (.slice ta2 tl tc2) x.term.to)/\Holds [w.heap.size,w.heap.size+1,w.heap.size+1+1] (w.heap.size+3) wr SP (fun W=>OPhis W SP vj (x.phis.take j))/\SP.off ST/\(∃ a c,vj = .slice a j c)) (fun i _=>pl - (intOf i).toNat)
 case atStart=>exact ⟨0,.slice none 0 0,Foot.none,Nat.zero_le _,rfl,HW.out,B1.out,B2.out,B3.out,HTS.out,⟨OSl.nil none,fun _ _ h hk=>h.keep OPhi.nice hk,fun k h=>h.elim,fun k h=>h.elim,fun k h=>h.elim⟩,fun k h=>h.elim,_,_,rfl⟩
 case round =>
  obtain ⟨j,vj,SP,hj,rfl,hW,h1,h2,h3,h4,h5,h6,av,cv,rfl⟩:=hrel
  clear lB1 cB1 fB1 lB2 cB2 fB2 lB3 cB3 fB3
  replace HW:=Lib.hid hW
  replace B1:=Lib.hid h1
  replace B2:=Lib.hid h2
  replace B3:=Lib.hid h3
  replace HTS:=Lib.hid h4
  have HPS:=Lib.hid h5
  have HAP:=Lib.hid h6
  clear hW h1 h2 h3 h4 h5 h6
  generalize wr=w4 at *


  obtain ⟨lB1,cB1,fB1⟩:=B1.out
  obtain ⟨lB2,cB2,fB2⟩:=B2.out
  obtain ⟨lB3,cB3,fB3⟩:=B3.out
  by_cases hlt:j < pl
  ·obtain ⟨rfl,hbp⟩:=HPA.out (by omega)



   obtain ⟨p,hxm⟩ : ∃ p,x.phis[j]? = some p:=⟨_,List.getElem?_eq_getElem (by have:=HPL.out;omega)⟩
   obtain ⟨af,av2,cf,cv2,hP⟩:=HPX.out j p hxm
   have HSRC:=Lib.hid hP.src
   have HVAL:=Lib.hid hP.vals
   have HI64:Hid (In64 p.id/\In64 p.typ):=Lib.hid ⟨hP.id64,hP.typ64⟩
   obtain ⟨m0,m1,m2,m3,r1,r2,r3,r4⟩:=hP.below HW.out hbp
   have HTK:=Lib.hid (take_snoc x.phis j p hxm)
   clear hxm hP r1 r2 r3 r4
   have HP4L:=HPS.out.lt
   have HTL4:Hid (∀ k,ST k -> k < w4.heap.size):=Lib.hid HTS.out.lt
   have hl4:w.heap.size+3 <= w4.heap.size:=by omega
   replace HTS:=Lib.hid (HTS.out.more (Nat.le_refl w4.heap.size))
   replace HPS:=Lib.hid (HPS.out.more (Nat.le_refl w4.heap.size))
   go_upto_region 6 with (fail)
   have nBPB1:w4.heap.size ≠ w.heap.size:=fun e=>by have:=lB1;omega
   have nB1BP:w.heap.size ≠ w4.heap.size:=fun e=>nBPB1 e.symm
   have nBPB2:w4.heap.size ≠ w.heap.size+1:=fun e=>by have:=lB2;omega
   have nB2BP:w.heap.size+1 ≠ w4.heap.size:=fun e=>nBPB2 e.symm
   have nBPB3:w4.heap.size ≠ w.heap.size+1+1:=fun e=>by have:=lB3;omega
   have nB3BP:w.heap.size+1+1 ≠ w4.heap.size:=fun e=>nBPB3 e.symm
   have B1_:Box (w4.alloc (.cells #[.int .i64 p.id,.int .i64 p.typ,.slice af p.src.length cf,.slice av2 p.vals.length cv2] 78)) (w.heap.size) #[.slice (some ⟨bp,op_,none⟩) pl cp,.slice ac cl cc,.int .i64 op,.int .i64 val,.slice ta tl tc,.int .i64 tn]:=by simpa using (B1.out.alloc _)
   have B2_:Box (w4.alloc (.cells #[.int .i64 p.id,.int .i64 p.typ,.slice af p.src.length cf,.slice av2 p.vals.length cv2] 78)) (w.heap.size+1) #[.slice none 0 0,.slice none 0 0,.int .i64 0,.int .i64 0,.slice none 0 0,.int .i64 0]:=by simpa using (B2.out.alloc _)
   have B3_:Box (w4.alloc (.cells #[.int .i64 p.id,.int .i64 p.typ,.slice af p.src.length cf,.slice av2 p.vals.length cv2] 78)) (w.heap.size+1+1) #[.slice av j cv,.slice none 0 0,.int .i64 op,.int .i64 val,.slice ta2 tl tc2,.int .i64 tn]:=by simpa using (B3.out.alloc _)
   have BP_:Box (w4.alloc (.cells #[.int .i64 p.id,.int .i64 p.typ,.slice af p.src.length cf,.slice av2 p.vals.length cv2] 78)) (w4.heap.size) #[.int .i64 p.id,.int .i64 p.typ,.slice af p.src.length cf,.slice av2 p.vals.length cv2]:=by simpa using (Box.new w4 #[.int .i64 p.id,.int .i64 p.typ,.slice af p.src.length cf,.slice av2 p.vals.length cv2] 78)
   have HTS_:=(HTS.out.alloc (.cells #[.int .i64 p.id,.int .i64 p.typ,.slice af p.src.length cf,.slice av2 p.vals.length cv2] 78))
   have HPS_:=(HPS.out.alloc (.cells #[.int .i64 p.id,.int .i64 p.typ,.slice af p.src.length cf,.slice av2 p.vals.length cv2] 78))
   have HW_:Below w.heap.size w (w4.alloc (.cells #[.int .i64 p.id,.int .i64 p.typ,.slice af p.src.length cf,.slice av2 p.vals.length cv2] 78)):=(HW.out.alloc (by first | exact Nat.le_refl _ | exact HW.out.size | (simp only [World.size_alloc,World.size_setCell];have:=HW.out.size;omega)) _)
   clear lB1 cB1 fB1 lB2 cB2 fB2 lB3 cB3 fB3
   clear B1 B2 B3 HTS HPS HW
   generalize (w4.alloc (.cells #[.int .i64 p.id,.int .i64 p.typ,.slice af p.src.length cf,.slice av2 p.vals.length cv2] 78))=w5 at *
   have B1:=Lib.hid B1_
   clear B1_
   have B2:=Lib.hid B2_
   clear B2_
   have B3:=Lib.hid B3_
   clear B3_
   have BP:=Lib.hid BP_
   clear BP_
   have HTS:=Lib.hid HTS_
   clear HTS_
   have HPS:=Lib.hid HPS_
   clear HPS_
   have HW:=Lib.hid HW_
   clear HW_
   obtain ⟨lB1,cB1,fB1⟩:=B1.out
   obtain ⟨lB2,cB2,fB2⟩:=B2.out
   obtain ⟨lB3,cB3,fB3⟩:=B3.out
   obtain ⟨lBP,cBP,fBP⟩:=BP.out
   have BP5:Hid (w4.heap.size < w5.heap.size):=Lib.hid BP.out.lt
   have HPL4:Hid (∀ k,SP k -> k < w4.heap.size):=Lib.hid HP4L
   have HL45:Hid (w.heap.size+3 <= w5.heap.size):=Lib.hid (by have:=B3.out.lt;have:=BP.out.lt;omega)
   clear m0 m1 m2 m3
   refine Four.wp_region_grow (XF:=(fun _=>Foot.none)) (I:=(fun _=>True)) 7 (fun ν kz=>match kz with | 2=>.holds (fun u w' => ∃ S,Holds [] w5.heap.size w' S (fun W=>OInts W S u p.src)/\True) | 5=>.holds (fun u w' => ∃ S S2,Holds [] w5.heap.size w' S (fun W=>OInts W S u p.vals)/\Holds [] w5.heap.size w' S2 (fun W=>OInts W S2 (ν 2) p.src)/\S.off S2) | _=>.plain) (by kernel_rfl) (by kernel_rfl) ?_ ?_ (fun _ _ h=>h.elim) (fun _ _ _ _=>trivial) trivial ?_ (fun ν => ?_)
   ·(intro ν k;(try dsimp only);split <;> first | exact True.intro | (intro u w1 w2 hu hb;first | (obtain ⟨S,S2,h1,h2,h3⟩:=hu;exact ⟨S,S2,h1.off hb (fun _ _ ⟨_,_,h⟩=>h.elim),h2.off hb (fun _ _ ⟨_,_,h⟩=>h.elim),h3⟩) | (obtain ⟨S,h1,h2⟩:=hu;exact ⟨S,h1.off hb (fun _ _ ⟨_,_,h⟩=>h.elim),h2⟩)))
   ·(intro ν ν' k h;first | rfl | ((try dsimp only);split <;> first | rfl | (rw [h 2 (by kernel_rfl)])))
   ·(intro ν j B mk A h;(try dsimp only at h);split at h <;> first | (cases h;exact Nat.le_refl _) | cases h)
   simp only [List.take_succ_cons,List.take_zero,List.drop_succ_cons,List.drop_zero]
   iterate 2 (refine Four.Grow.val (v := ?_) rfl rfl (fun wg hbg hdg => ?_) ?_;rotate_left;(focus ((obtain ⟨lg0,cg0,fg0⟩:=B1.out.off hbg.off (fun ⟨_,h⟩=>h.elim));(obtain ⟨lg1,cg1,fg1⟩:=B2.out.off hbg.off (fun ⟨_,h⟩=>h.elim));(obtain ⟨lg2,cg2,fg2⟩:=B3.out.off hbg.off (fun ⟨_,h⟩=>h.elim));(obtain ⟨lg3,cg3,fg3⟩:=BP.out.off hbg.off (fun ⟨_,h⟩=>h.elim));clear hbg hdg;first | (go_simp;done) | (go_simp;with_reducible rfl)));simp only [Act.put,List.setIfInBounds_toArray,List.set_cons_zero,List.set_cons_succ])
   refine Four.Grow.call (f := ?_) (args := ?_) rfl (fun wg => ?_) (fun wg hbg hdg => ?_) ?_
   rotate_left 2
   focus (first | (go_simp;done) | (go_simp;refine And.intro ?_ ?_ <;> with_reducible rfl) | (go_simp;with_reducible rfl))
   focus (exact (cloneI (HSRC.out.below (HW.out.trans ((pre0 hbg).mono HW.out.size)))).mono (fun e w2 ⟨u,S,he,hI,hF,hw⟩=>⟨u,he,⟨S,(holds_ints hI hF).from hbg.1.size,trivial⟩,hw⟩))
   simp only [Act.put,Known.val,List.setIfInBounds_toArray,List.set_cons_zero,List.set_cons_succ]
   iterate 2 (refine Four.Grow.val (v := ?_) rfl rfl (fun wg hbg hdg => ?_) ?_;rotate_left;(focus ((obtain ⟨lg0,cg0,fg0⟩:=B1.out.off hbg.off (fun ⟨_,h⟩=>h.elim));(obtain ⟨lg1,cg1,fg1⟩:=B2.out.off hbg.off (fun ⟨_,h⟩=>h.elim));(obtain ⟨lg2,cg2,fg2⟩:=B3.out.off hbg.off (fun ⟨_,h⟩=>h.elim));(obtain ⟨lg3,cg3,fg3⟩:=BP.out.off hbg.off (fun ⟨_,h⟩=>h.elim));clear hbg hdg;first | (go_simp;done) | (go_simp;with_reducible rfl)));simp only [Act.put,List.setIfInBounds_toArray,List.set_cons_zero,List.set_cons_succ])
   refine Four.Grow.call (f := ?_) (args := ?_) rfl (fun wg => ?_) (fun wg hbg hdg => ?_) ?_
   rotate_left 2
   focus (first | (go_simp;done) | (go_simp;refine And.intro ?_ ?_ <;> with_reducible rfl) | (go_simp;with_reducible rfl))
   focus (have h9:=hdg 2 (by kernel_rfl);obtain ⟨S2,k1, -⟩:=h9;exact (cloneI (HVAL.out.below (HW.out.trans ((pre0 hbg).mono HW.out.size)))).mono (fun e w2 ⟨u,S,he,hI,hF,hw⟩=>⟨u,he,⟨S,S2,(holds_ints hI hF).from hbg.1.size,k1.later hw,hF.off k1.lt⟩,hw⟩))
   simp only [Act.put,Known.val,List.setIfInBounds_toArray,List.set_cons_zero,List.set_cons_succ]
   refine Four.Grow.val (v := ?_) rfl rfl (fun wg hbg hdg => ?_) ?_
   rotate_left
   focus ((obtain ⟨lg0,cg0,fg0⟩:=B1.out.off hbg.off (fun ⟨_,h⟩=>h.elim));(obtain ⟨lg1,cg1,fg1⟩:=B2.out.off hbg.off (fun ⟨_,h⟩=>h.elim));(obtain ⟨lg2,cg2,fg2⟩:=B3.out.off hbg.off (fun ⟨_,h⟩=>h.elim));(obtain ⟨lg3,cg3,fg3⟩:=BP.out.off hbg.off (fun ⟨_,h⟩=>h.elim));clear hbg hdg;first | (go_simp;done) | (go_simp;with_reducible rfl))
   simp only [Act.put,List.setIfInBounds_toArray,List.set_cons_zero,List.set_cons_succ]
   intro wg hb hf hap
   clear hap
   clear lB1 cB1 fB1 lB2 cB2 fB2 lB3 cB3 fB3 lBP cBP fBP
   replace B1:=Lib.hid (B1.out.off hb.1 (fun ⟨_,h⟩=>h.elim))
   replace B2:=Lib.hid (B2.out.off hb.1 (fun ⟨_,h⟩=>h.elim))
   replace B3:=Lib.hid (B3.out.off hb.1 (fun ⟨_,h⟩=>h.elim))
   replace BP:=Lib.hid (BP.out.off hb.1 (fun ⟨_,h⟩=>h.elim))
   replace HTS:=Lib.hid (HTS.out.off hb.1 (fun _ _ ⟨_,h⟩=>h.elim))
   replace HPS:=Lib.hid (HPS.out.off hb.1 (fun _ _ ⟨_,h⟩=>h.elim))
   replace HW:=Lib.hid (HW.out.trans (hb.1.below HW.out.size (fun _ _ ⟨_,h⟩=>h.elim)))
   obtain ⟨lB1,cB1,fB1⟩:=B1.out
   obtain ⟨lB2,cB2,fB2⟩:=B2.out
   obtain ⟨lB3,cB3,fB3⟩:=B3.out
   obtain ⟨lBP,cBP,fBP⟩:=BP.out
   simp only [Nat.zero_add,Nat.reduceAdd]
   have h5:∃ S S2,Holds [] w5.heap.size wg S (fun W=>OInts W S (ν 5) p.vals)/\Holds [] w5.heap.size wg S2 (fun W=>OInts W S2 (ν 2) p.src)/\S.off S2:=hf 5 (by omega)
   obtain ⟨S5,S2,k5,k2,k3⟩:=h5
   obtain ⟨a2,c2,e2⟩:=k2.now.ints.form
   obtain ⟨a5,c5,e5⟩:=k5.now.ints.form
   simp only [e2,e5] at *
   clear hf e2 e5
   have h45:w4.heap.size < w5.heap.size:=BP5.out
   have HS5:=Lib.hid (k5.low (bs':=[w4.heap.size]) (by simp;exact h45))
   have HS2:=Lib.hid (k2.low (bs':=[w4.heap.size]) (by simp;exact h45))
   have HK3:=Lib.hid k3
   clear k5 k2 k3 hb

   go_upto_region 7 with (fail)
   have B1_:Box ((wg.setCell ⟨w4.heap.size,2,none⟩ (.slice a2 p.src.length c2)).setCell ⟨w4.heap.size,3,none⟩ (.slice a5 p.vals.length c5)) (w.heap.size) #[.slice (some ⟨bp,op_,none⟩) pl cp,.slice ac cl cc,.int .i64 op,.int .i64 val,.slice ta tl tc,.int .i64 tn]:=by simpa using ((B1.out.other (p:=⟨w4.heap.size,2,none⟩) (.slice a2 p.src.length c2) (by first | assumption | (simp;done) | omega | (dsimp only;omega))).other (p:=⟨w4.heap.size,3,none⟩) (.slice a5 p.vals.length c5) (by first | assumption | (simp;done) | omega | (dsimp only;omega)))
   have B2_:Box ((wg.setCell ⟨w4.heap.size,2,none⟩ (.slice a2 p.src.length c2)).setCell ⟨w4.heap.size,3,none⟩ (.slice a5 p.vals.length c5)) (w.heap.size+1) #[.slice none 0 0,.slice none 0 0,.int .i64 0,.int .i64 0,.slice none 0 0,.int .i64 0]:=by simpa using ((B2.out.other (p:=⟨w4.heap.size,2,none⟩) (.slice a2 p.src.length c2) (by first | assumption | (simp;done) | omega | (dsimp only;omega))).other (p:=⟨w4.heap.size,3,none⟩) (.slice a5 p.vals.length c5) (by first | assumption | (simp;done) | omega | (dsimp only;omega)))
   have B3_:Box ((wg.setCell ⟨w4.heap.size,2,none⟩ (.slice a2 p.src.length c2)).setCell ⟨w4.heap.size,3,none⟩ (.slice a5 p.vals.length c5)) (w.heap.size+1+1) #[.slice av j cv,.slice none 0 0,.int .i64 op,.int .i64 val,.slice ta2 tl tc2,.int .i64 tn]:=by simpa using ((B3.out.other (p:=⟨w4.heap.size,2,none⟩) (.slice a2 p.src.length c2) (by first | assumption | (simp;done) | omega | (dsimp only;omega))).other (p:=⟨w4.heap.size,3,none⟩) (.slice a5 p.vals.length c5) (by first | assumption | (simp;done) | omega | (dsimp only;omega)))
   have BP_:Box ((wg.setCell ⟨w4.heap.size,2,none⟩ (.slice a2 p.src.length c2)).setCell ⟨w4.heap.size,3,none⟩ (.slice a5 p.vals.length c5)) (w4.heap.size) #[.int .i64 p.id,.int .i64 p.typ,(.slice a2 p.src.length c2),(.slice a5 p.vals.length c5)]:=by simpa using ((BP.out.set 2 (.slice a2 p.src.length c2)).set 3 (.slice a5 p.vals.length c5))
   have HTS_:=((HTS.out.other (p:=⟨w4.heap.size,2,none⟩) (.slice a2 p.src.length c2) (by simp)).other (p:=⟨w4.heap.size,3,none⟩) (.slice a5 p.vals.length c5) (by simp))
   have HPS_:=((HPS.out.other (p:=⟨w4.heap.size,2,none⟩) (.slice a2 p.src.length c2) (by simp)).other (p:=⟨w4.heap.size,3,none⟩) (.slice a5 p.vals.length c5) (by simp))
   have HS5_:=((HS5.out.other (p:=⟨w4.heap.size,2,none⟩) (.slice a2 p.src.length c2) (by simp)).other (p:=⟨w4.heap.size,3,none⟩) (.slice a5 p.vals.length c5) (by simp))
   have HS2_:=((HS2.out.other (p:=⟨w4.heap.size,2,none⟩) (.slice a2 p.src.length c2) (by simp)).other (p:=⟨w4.heap.size,3,none⟩) (.slice a5 p.vals.length c5) (by simp))
   have HW_:Below w.heap.size w ((wg.setCell ⟨w4.heap.size,2,none⟩ (.slice a2 p.src.length c2)).setCell ⟨w4.heap.size,3,none⟩ (.slice a5 p.vals.length c5)):=((HW.out.setCell (p:=⟨w4.heap.size,2,none⟩) (by first | assumption | omega | (dsimp only;omega) | (have:=HW.out.size;omega) | (simp;done) | (simp;omega)) (.slice a2 p.src.length c2)).setCell (p:=⟨w4.heap.size,3,none⟩) (by first | assumption | omega | (dsimp only;omega) | (have:=HW.out.size;omega) | (simp;done) | (simp;omega)) (.slice a5 p.vals.length c5))
   clear lB1 cB1 fB1 lB2 cB2 fB2 lB3 cB3 fB3 lBP cBP fBP
   clear B1 B2 B3 BP HTS HPS HS5 HS2 HW
   generalize ((wg.setCell ⟨w4.heap.size,2,none⟩ (.slice a2 p.src.length c2)).setCell ⟨w4.heap.size,3,none⟩ (.slice a5 p.vals.length c5))=w6 at *
   have B1:=Lib.hid B1_
   clear B1_
   have B2:=Lib.hid B2_
   clear B2_
   have B3:=Lib.hid B3_
   clear B3_
   have BP:=Lib.hid BP_
   clear BP_
   have HTS:=Lib.hid HTS_
   clear HTS_
   have HPS:=Lib.hid HPS_
   clear HPS_
   have HS5:=Lib.hid HS5_
   clear HS5_
   have HS2:=Lib.hid HS2_
   clear HS2_
   have HW:=Lib.hid HW_
   clear HW_
   obtain ⟨lB1,cB1,fB1⟩:=B1.out
   obtain ⟨lB2,cB2,fB2⟩:=B2.out
   obtain ⟨lB3,cB3,fB3⟩:=B3.out
   obtain ⟨lBP,cBP,fBP⟩:=BP.out
   have HEL:Hid (Holds [] (w.heap.size+3) w6 (S2.or S5) (fun W=>OPhi W (S2.or S5) [.int .i64 p.id,.int .i64 p.typ,.slice a2 p.src.length c2,.slice a5 p.vals.length c5] p)):=Lib.hid
    (holds_nice OPhi.nice ⟨⟨_,_,S2,S5,rfl,HS2.out.now,HS5.out.now,HK3.out.symm,fun k h=>.inl h,fun k h=>.inr h⟩,fun k hk=>hk.elim (HS2.out.lt k) (HS5.out.lt k),HI64.out.1,HI64.out.2⟩ (fun k hk=>by have:=HL45.out;rcases hk with hk | hk;exact Nat.le_trans HL45.out (HS2.out.base k hk);exact Nat.le_trans HL45.out (HS5.out.base k hk)))

   have HFO:Hid ((S2.or S5).off SP):=Lib.hid (fun k h1 h2=>by
    have h3:=HPL4.out k h2
    rcases h1 with h1 | h1
    ·have:=HS2.out.base k h1;have:=BP5.out;omega
    ·have:=HS5.out.base k h1;have:=BP5.out;omega)
   replace HPS:=Lib.hid (HPS.out.less (bs':=[w.heap.size,w.heap.size+1,w.heap.size+1+1]) (fun b hb=>List.mem_cons_of_mem _ hb))
   replace HTS:=Lib.hid (HTS.out.less (bs':=[w.heap.size,w.heap.size+1,w.heap.size+1+1]) (fun b hb=>List.mem_cons_of_mem _ hb))
   have HLN:Hid ((x.phis.take j).length=j):=Lib.hid (by rw [List.length_take];have:=HPL.out;omega)
   have hb6:w.heap.size+3 <= w6.heap.size:=by have:=lB3;omega
   have HST:Hid ((S2.or S5).off ST):=Lib.hid (fun k h1 h2=>by
    have h3:=HTL4.out k h2
    rcases h1 with h1 | h1
    ·have:=HS2.out.base k h1;have:=BP5.out;omega
    ·have:=HS5.out.base k h1;have:=BP5.out;omega)
   have HTL6:=Lib.hid HTS.out.lt
   clear HS2 HS5 HK3 BP5 HL45 HTL4
   go_upto_region 8 with (at_builtin;refine wpList_osnoc OPhi.nice rfl _ _ 51 78 rfl elPhi rfl rfl HLN.out (HPS.out.alloc _) (Box.new _ _ _) rfl (HEL.out.alloc _).now HFO.out HEL.out.base (by intro b hb;simp at hb;omega) (by simp;omega) (by simp [Value.oneCell']) (by omega) (by omega) ?_;intro v2 w7 SP2 q1 q2 q3 q4;obtain ⟨g2,c2,rfl⟩:=q4;have hB3:=(B3.out.alloc _).off q3 (fun h=>HPS.out.free _ h (by simp));obtain ⟨lx,cx,fx⟩:=hB3)
   clear lx cx fx
   clear lB1 cB1 fB1 lB2 cB2 fB2 lB3 cB3 fB3 lBP cBP fBP
   replace B1:=Lib.hid ((B1.out.alloc _).off q3 (fun h=>HPS.out.free _ h (by simp)))
   replace B2:=Lib.hid ((B2.out.alloc _).off q3 (fun h=>HPS.out.free _ h (by simp)))
   replace B3:=Lib.hid ((B3.out.alloc _).off q3 (fun h=>HPS.out.free _ h (by simp)))
   replace HTS:=Lib.hid ((HTS.out.alloc _).off q3 (fun k h1 h2=>HAP.out k h2 h1))
   replace HW:=Lib.hid ((HW.out.alloc HW.out.size _).trans (q3.below (by simp;have:=HW.out.size;omega) (fun k _ hk=>by have:=HPS.out.base k hk;omega)))
   replace HAP:Hid (SP2.off ST):=Lib.hid (fun k h1 h2=>by
    rcases q2 k h1 with h3 | h3 | h3
    ·exact HAP.out k h3 h2
    ·exact HST.out k h3 h2
    ·have:=HTL6.out k h2;simp at h3;omega)
   clear HPS BP
   have HPS:=Lib.hid q1
   clear q1 q2 q3 hb6 HEL HFO HTL6 HST HPL4



   obtain ⟨lB1,cB1,fB1⟩:=B1.out
   obtain ⟨lB2,cB2,fB2⟩:=B2.out
   obtain ⟨lB3,cB3,fB3⟩:=B3.out
   have B1_:Box (w7.setCell ⟨w.heap.size+1+1,0,none⟩ (.slice (some ⟨g2,0,none⟩) (j+1) c2)) (w.heap.size) #[.slice (some ⟨bp,op_,none⟩) pl cp,.slice ac cl cc,.int .i64 op,.int .i64 val,.slice ta tl tc,.int .i64 tn]:=by simpa using (B1.out.other (p:=⟨w.heap.size+1+1,0,none⟩) (.slice (some ⟨g2,0,none⟩) (j+1) c2) (by first | assumption | (simp;done) | omega | (dsimp only;omega)))
   have B2_:Box (w7.setCell ⟨w.heap.size+1+1,0,none⟩ (.slice (some ⟨g2,0,none⟩) (j+1) c2)) (w.heap.size+1) #[.slice none 0 0,.slice none 0 0,.int .i64 0,.int .i64 0,.slice none 0 0,.int .i64 0]:=by simpa using (B2.out.other (p:=⟨w.heap.size+1+1,0,none⟩) (.slice (some ⟨g2,0,none⟩) (j+1) c2) (by first | assumption | (simp;done) | omega | (dsimp only;omega)))
   have B3_:Box (w7.setCell ⟨w.heap.size+1+1,0,none⟩ (.slice (some ⟨g2,0,none⟩) (j+1) c2)) (w.heap.size+1+1) #[(.slice (some ⟨g2,0,none⟩) (j+1) c2),.slice none 0 0,.int .i64 op,.int .i64 val,.slice ta2 tl tc2,.int .i64 tn]:=by simpa using (B3.out.set 0 (.slice (some ⟨g2,0,none⟩) (j+1) c2))
   have HTS_:=(HTS.out.other (p:=⟨w.heap.size+1+1,0,none⟩) (.slice (some ⟨g2,0,none⟩) (j+1) c2) (by simp))
   have HPS_:=(HPS.out.other (p:=⟨w.heap.size+1+1,0,none⟩) (.slice (some ⟨g2,0,none⟩) (j+1) c2) (by simp))
   have HW_:Below w.heap.size w (w7.setCell ⟨w.heap.size+1+1,0,none⟩ (.slice (some ⟨g2,0,none⟩) (j+1) c2)):=(HW.out.setCell (p:=⟨w.heap.size+1+1,0,none⟩) (by first | assumption | omega | (dsimp only;omega) | (have:=HW.out.size;omega) | (simp;done) | (simp;omega)) (.slice (some ⟨g2,0,none⟩) (j+1) c2))
   clear lB1 cB1 fB1 lB2 cB2 fB2 lB3 cB3 fB3
   clear B1 B2 B3 HTS HPS HW
   generalize (w7.setCell ⟨w.heap.size+1+1,0,none⟩ (.slice (some ⟨g2,0,none⟩) (j+1) c2))=w8 at *
   have B1:=Lib.hid B1_
   clear B1_
   have B2:=Lib.hid B2_
   clear B2_
   have B3:=Lib.hid B3_
   clear B3_
   have HTS:=Lib.hid HTS_
   clear HTS_
   have HPS:=Lib.hid HPS_
   clear HPS_
   have HW:=Lib.hid HW_
   clear HW_
   obtain ⟨lB1,cB1,fB1⟩:=B1.out
   obtain ⟨lB2,cB2,fB2⟩:=B2.out
   obtain ⟨lB3,cB3,fB3⟩:=B3.out
   rw [<-HTK.out] at HPS
   go_wp2
   go_roundw
   case rel=>exact ⟨j+1,.slice (some ⟨g2,0,none⟩) (j+1) c2,SP2,hlt,by go_num,HW.out,B1.out,B2.out,B3.out,HTS.out,HPS.out,HAP.out,_,_,rfl⟩
   case measure=>simp [intOf];omega
  ·have hjp:j=pl:=by omega
   have HPS2:Hid (Holds [w.heap.size,w.heap.size+1,w.heap.size+1+1] (w.heap.size+3) w4 SP (fun W=>OPhis W SP (.slice av pl cv) x.phis)):=Lib.hid (by
    have h9:=HPS.out
    rw [List.take_of_length_le (by have:=HPL.out;omega),hjp] at h9
    exact h9)
   rw [hjp] at B3
   clear HPS HPX hjp




   clear lB1 cB1 fB1 lB2 cB2 fB2 lB3 cB3 fB3
   obtain ⟨lB1,cB1,fB1⟩:=B1.out
   obtain ⟨lB2,cB2,fB2⟩:=B2.out
   obtain ⟨lB3,cB3,fB3⟩:=B3.out
   go_wp2_with fail
   go_loopw [42] (fun i wr => ∃ (j:Nat) (uj:Value) (SI:Foot),j <= cl/\i = .int .i64 j/\Below w.heap.size w wr/\Box wr w.heap.size #[.slice ap pl cp,.slice ac cl cc,.int .i64 op,.int .i64 val,.slice ta tl tc,.int .i64 tn]/\Box wr (w.heap.size+1) #[.slice none 0 0,.slice none 0 0,.int .i64 0,.int .i64 0,.slice none 0 0,.int .i64 0]/\Box wr (w.heap.size+1+1) #[.slice av pl cv,uj,.int .i64 op,.int .i64 val,.slice ta2 tl tc2,.int .i64 tn] /\
     Holds [w.heap.size,w.heap.size+1,w.heap.size+1+1] (w.heap.size+3) wr ST (fun W=>OInts W ST (.slice ta2 tl tc2) x.term.to)/\Holds [w.heap.size,w.heap.size+1,w.heap.size+1+1] (w.heap.size+3) wr SP (fun W=>OPhis W SP (.slice av pl cv) x.phis) /\
     Holds [w.heap.size,w.heap.size+1,w.heap.size+1+1] (w.heap.size+3) wr SI (fun W=>OCode W SI uj (x.code.take j))/\SI.off ST/\SI.off SP/\(∃ a c,uj = .slice a j c)) (fun i _=>cl - (intOf i).toNat)
   case atStart=>exact ⟨0,.slice none 0 0,Foot.none,Nat.zero_le _,rfl,HW.out,B1.out,B2.out,B3.out,HTS.out,HPS2.out,⟨OSl.nil none,fun _ _ h hk=>h.keep OInstr.nice hk,fun k h=>h.elim,fun k h=>h.elim,fun k h=>h.elim⟩,fun k h=>h.elim,fun k h=>h.elim,_,_,rfl⟩
   case round =>
    obtain ⟨k,uj,SI,hj,rfl,hW,h1,h2,h3,h4,h5,h6,h7,h8,au,cu,rfl⟩:=hrel
    clear lB1 cB1 fB1 lB2 cB2 fB2 lB3 cB3 fB3
    replace HW:=Lib.hid hW
    replace B1:=Lib.hid h1
    replace B2:=Lib.hid h2
    replace B3:=Lib.hid h3
    replace HTS:=Lib.hid h4
    replace HPS2:=Lib.hid h5
    have HIS:=Lib.hid h6
    have HAT:=Lib.hid h7
    have HAI:=Lib.hid h8
    clear hW h1 h2 h3 h4 h5 h6 h7 h8
    generalize wr=w5 at *


    obtain ⟨lB1,cB1,fB1⟩:=B1.out
    obtain ⟨lB2,cB2,fB2⟩:=B2.out
    obtain ⟨lB3,cB3,fB3⟩:=B3.out
    by_cases hlt2:k < cl
    ·obtain ⟨rfl,hbc⟩:=HCA.out (by omega)



     obtain ⟨y,hxm⟩ : ∃ y,x.code[k]? = some y:=⟨_,List.getElem?_eq_getElem (by have:=HCL.out;omega)⟩
     obtain ⟨aa,ca,hP⟩:=HCX.out k y hxm
     have HARG:=Lib.hid hP.args
     have HI64:Hid (In64 y.op/\In64 y.id/\In64 y.n):=Lib.hid ⟨hP.op64,hP.id64,hP.n64⟩
     obtain ⟨m0,m1,m2,m3,r1,r2,r3,r4⟩:=hP.below HW.out hbc
     have HTK:=Lib.hid (take_snoc x.code k y hxm)
     clear hxm hP r1 r2 r3 r4
     have HP4L:Hid (∀ q,SI q -> q < w5.heap.size):=Lib.hid HIS.out.lt
     have HPP4:Hid (∀ q,SP q -> q < w5.heap.size):=Lib.hid HPS2.out.lt
     have HTL4:Hid (∀ q,ST q -> q < w5.heap.size):=Lib.hid HTS.out.lt
     have hl4:w.heap.size+3 <= w5.heap.size:=by omega
     replace HTS:=Lib.hid (HTS.out.more (Nat.le_refl w5.heap.size))
     replace HPS2:=Lib.hid (HPS2.out.more (Nat.le_refl w5.heap.size))
     replace HIS:=Lib.hid (HIS.out.more (Nat.le_refl w5.heap.size))
     go_upto_region 12 with (fail)
     have nBIB1:w5.heap.size ≠ w.heap.size:=fun e=>by have:=lB1;omega
     have nB1BI:w.heap.size ≠ w5.heap.size:=fun e=>nBIB1 e.symm
     have nBIB2:w5.heap.size ≠ w.heap.size+1:=fun e=>by have:=lB2;omega
     have nB2BI:w.heap.size+1 ≠ w5.heap.size:=fun e=>nBIB2 e.symm
     have nBIB3:w5.heap.size ≠ w.heap.size+1+1:=fun e=>by have:=lB3;omega
     have nB3BI:w.heap.size+1+1 ≠ w5.heap.size:=fun e=>nBIB3 e.symm
     have B1_:Box (w5.alloc (.cells #[.int .i64 y.op,.int .i64 y.id,.slice aa y.args.length ca,.int .i64 y.n] 80)) (w.heap.size) #[.slice ap pl cp,.slice (some ⟨bc,oc,none⟩) cl cc,.int .i64 op,.int .i64 val,.slice ta tl tc,.int .i64 tn]:=by simpa using (B1.out.alloc _)
     have B2_:Box (w5.alloc (.cells #[.int .i64 y.op,.int .i64 y.id,.slice aa y.args.length ca,.int .i64 y.n] 80)) (w.heap.size+1) #[.slice none 0 0,.slice none 0 0,.int .i64 0,.int .i64 0,.slice none 0 0,.int .i64 0]:=by simpa using (B2.out.alloc _)
     have B3_:Box (w5.alloc (.cells #[.int .i64 y.op,.int .i64 y.id,.slice aa y.args.length ca,.int .i64 y.n] 80)) (w.heap.size+1+1) #[.slice av pl cv,.slice au k cu,.int .i64 op,.int .i64 val,.slice ta2 tl tc2,.int .i64 tn]:=by simpa using (B3.out.alloc _)
     have BI_:Box (w5.alloc (.cells #[.int .i64 y.op,.int .i64 y.id,.slice aa y.args.length ca,.int .i64 y.n] 80)) (w5.heap.size) #[.int .i64 y.op,.int .i64 y.id,.slice aa y.args.length ca,.int .i64 y.n]:=by simpa using (Box.new w5 #[.int .i64 y.op,.int .i64 y.id,.slice aa y.args.length ca,.int .i64 y.n] 80)
     have HTS_:=(HTS.out.alloc (.cells #[.int .i64 y.op,.int .i64 y.id,.slice aa y.args.length ca,.int .i64 y.n] 80))
     have HPS2_:=(HPS2.out.alloc (.cells #[.int .i64 y.op,.int .i64 y.id,.slice aa y.args.length ca,.int .i64 y.n] 80))
     have HIS_:=(HIS.out.alloc (.cells #[.int .i64 y.op,.int .i64 y.id,.slice aa y.args.length ca,.int .i64 y.n] 80))
     have HW_:Below w.heap.size w (w5.alloc (.cells #[.int .i64 y.op,.int .i64 y.id,.slice aa y.args.length ca,.int .i64 y.n] 80)):=(HW.out.alloc (by first | exact Nat.le_refl _ | exact HW.out.size | (simp only [World.size_alloc,World.size_setCell];have:=HW.out.size;omega)) _)
     clear lB1 cB1 fB1 lB2 cB2 fB2 lB3 cB3 fB3
     clear B1 B2 B3 HTS HPS2 HIS HW
     generalize (w5.alloc (.cells #[.int .i64 y.op,.int .i64 y.id,.slice aa y.args.length ca,.int .i64 y.n] 80))=w6 at *
     have B1:=Lib.hid B1_
     clear B1_
     have B2:=Lib.hid B2_
     clear B2_
     have B3:=Lib.hid B3_
     clear B3_
     have BI:=Lib.hid BI_
     clear BI_
     have HTS:=Lib.hid HTS_
     clear HTS_
     have HPS2:=Lib.hid HPS2_
     clear HPS2_
     have HIS:=Lib.hid HIS_
     clear HIS_
     have HW:=Lib.hid HW_
     clear HW_
     obtain ⟨lB1,cB1,fB1⟩:=B1.out
     obtain ⟨lB2,cB2,fB2⟩:=B2.out
     obtain ⟨lB3,cB3,fB3⟩:=B3.out
     obtain ⟨lBI,cBI,fBI⟩:=BI.out
     have BI5:Hid (w5.heap.size < w6.heap.size):=Lib.hid BI.out.lt
     clear m0 m1 m2 m3
     go_wp2_with fail
     refine (cloneI (HARG.out.below HW.out)).mono ?_
     rintro e w7 ⟨tv2,SA,rfl,hI,hF,hb⟩
     obtain ⟨a2,c2,rfl⟩:=hI.ints.form
     have HAS:Hid (Holds [w5.heap.size] w6.heap.size w7 SA (fun W=>OInts W SA (.slice a2 y.args.length c2) y.args)):=Lib.hid ((holds_ints hI hF).low (by simp;exact BI5.out))
     clear hI hF
     clear lB1 cB1 fB1 lB2 cB2 fB2 lB3 cB3 fB3 lBI cBI fBI
     replace B1:=Lib.hid (B1.out.later hb)
     replace B2:=Lib.hid (B2.out.later hb)
     replace B3:=Lib.hid (B3.out.later hb)
     replace BI:=Lib.hid (BI.out.later hb)
     replace HTS:=Lib.hid (HTS.out.later hb)
     replace HPS2:=Lib.hid (HPS2.out.later hb)
     replace HIS:=Lib.hid (HIS.out.later hb)
     replace HW:=Lib.hid (HW.out.trans (hb.mono HW.out.size))
     clear hb
     obtain ⟨lB1,cB1,fB1⟩:=B1.out
     obtain ⟨lB2,cB2,fB2⟩:=B2.out
     obtain ⟨lB3,cB3,fB3⟩:=B3.out
     obtain ⟨lBI,cBI,fBI⟩:=BI.out

     go_upto_region 13 with (fail)
     have B1_:Box (w7.setCell ⟨w5.heap.size,2,none⟩ (.slice a2 y.args.length c2)) (w.heap.size) #[.slice ap pl cp,.slice (some ⟨bc,oc,none⟩) cl cc,.int .i64 op,.int .i64 val,.slice ta tl tc,.int .i64 tn]:=by simpa using (B1.out.other (p:=⟨w5.heap.size,2,none⟩) (.slice a2 y.args.length c2) (by first | assumption | (simp;done) | omega | (dsimp only;omega)))
     have B2_:Box (w7.setCell ⟨w5.heap.size,2,none⟩ (.slice a2 y.args.length c2)) (w.heap.size+1) #[.slice none 0 0,.slice none 0 0,.int .i64 0,.int .i64 0,.slice none 0 0,.int .i64 0]:=by simpa using (B2.out.other (p:=⟨w5.heap.size,2,none⟩) (.slice a2 y.args.length c2) (by first | assumption | (simp;done) | omega | (dsimp only;omega)))
     have B3_:Box (w7.setCell ⟨w5.heap.size,2,none⟩ (.slice a2 y.args.length c2)) (w.heap.size+1+1) #[.slice av pl cv,.slice au k cu,.int .i64 op,.int .i64 val,.slice ta2 tl tc2,.int .i64 tn]:=by simpa using (B3.out.other (p:=⟨w5.heap.size,2,none⟩) (.slice a2 y.args.length c2) (by first | assumption | (simp;done) | omega | (dsimp only;omega)))
     have BI_:Box (w7.setCell ⟨w5.heap.size,2,none⟩ (.slice a2 y.args.length c2)) (w5.heap.size) #[.int .i64 y.op,.int .i64 y.id,(.slice a2 y.args.length c2),.int .i64 y.n]:=by simpa using (BI.out.set 2 (.slice a2 y.args.length c2))
     have HTS_:=(HTS.out.other (p:=⟨w5.heap.size,2,none⟩) (.slice a2 y.args.length c2) (by simp))
     have HPS2_:=(HPS2.out.other (p:=⟨w5.heap.size,2,none⟩) (.slice a2 y.args.length c2) (by simp))
     have HIS_:=(HIS.out.other (p:=⟨w5.heap.size,2,none⟩) (.slice a2 y.args.length c2) (by simp))
     have HAS_:=(HAS.out.other (p:=⟨w5.heap.size,2,none⟩) (.slice a2 y.args.length c2) (by simp))
     have HW_:Below w.heap.size w (w7.setCell ⟨w5.heap.size,2,none⟩ (.slice a2 y.args.length c2)):=(HW.out.setCell (p:=⟨w5.heap.size,2,none⟩) (by first | assumption | omega | (dsimp only;omega) | (have:=HW.out.size;omega) | (simp;done) | (simp;omega)) (.slice a2 y.args.length c2))
     clear lB1 cB1 fB1 lB2 cB2 fB2 lB3 cB3 fB3 lBI cBI fBI
     clear B1 B2 B3 BI HTS HPS2 HIS HAS HW
     generalize (w7.setCell ⟨w5.heap.size,2,none⟩ (.slice a2 y.args.length c2))=w8 at *
     have B1:=Lib.hid B1_
     clear B1_
     have B2:=Lib.hid B2_
     clear B2_
     have B3:=Lib.hid B3_
     clear B3_
     have BI:=Lib.hid BI_
     clear BI_
     have HTS:=Lib.hid HTS_
     clear HTS_
     have HPS2:=Lib.hid HPS2_
     clear HPS2_
     have HIS:=Lib.hid HIS_
     clear HIS_
     have HAS:=Lib.hid HAS_
     clear HAS_
     have HW:=Lib.hid HW_
     clear HW_
     obtain ⟨lB1,cB1,fB1⟩:=B1.out
     obtain ⟨lB2,cB2,fB2⟩:=B2.out
     obtain ⟨lB3,cB3,fB3⟩:=B3.out
     obtain ⟨lBI,cBI,fBI⟩:=BI.out
     have HFR:Hid (∀ q,SA q -> w5.heap.size < q):=Lib.hid (fun q hq=>by have:=HAS.out.base q hq;have:=BI5.out;omega)
     have HEL:Hid (Holds [] (w.heap.size+3) w8 SA (fun W=>OInstr W SA [.int .i64 y.op,.int .i64 y.id,.slice a2 y.args.length c2,.int .i64 y.n] y)):=Lib.hid
      (holds_nice OInstr.nice ⟨⟨_,rfl,HAS.out.now⟩,HI64.out.1,HI64.out.2.1,HI64.out.2.2⟩ (fun q hq=>by have:=HFR.out q hq;omega))
     have HFO:Hid (SA.off SI):=Lib.hid (fun q h1 h2=>by have:=HP4L.out q h2;have:=HFR.out q h1;omega)
     have HFP:Hid (SA.off SP):=Lib.hid (fun q h1 h2=>by have:=HPP4.out q h2;have:=HFR.out q h1;omega)
     have HFT:Hid (SA.off ST):=Lib.hid (fun q h1 h2=>by have:=HTL4.out q h2;have:=HFR.out q h1;omega)
     replace HPS2:=Lib.hid (HPS2.out.less (bs':=[w.heap.size,w.heap.size+1,w.heap.size+1+1]) (fun b hb=>List.mem_cons_of_mem _ hb))
     replace HIS:=Lib.hid (HIS.out.less (bs':=[w.heap.size,w.heap.size+1,w.heap.size+1+1]) (fun b hb=>List.mem_cons_of_mem _ hb))
     replace HTS:=Lib.hid (HTS.out.less (bs':=[w.heap.size,w.heap.size+1,w.heap.size+1+1]) (fun b hb=>List.mem_cons_of_mem _ hb))
     have HLN:Hid ((x.code.take k).length=k):=Lib.hid (by rw [List.length_take];have:=HCL.out;omega)
     have hb6:w.heap.size+3 <= w8.heap.size:=by have:=lB3;omega
     have HTL6:=Lib.hid HTS.out.lt
     have HPL6:=Lib.hid HPS2.out.lt
     clear HAS BI5 HFR
     go_upto_region 14 with (at_builtin;refine wpList_osnoc OInstr.nice rfl _ _ 52 80 rfl elInstr rfl rfl HLN.out (HIS.out.alloc _) (Box.new _ _ _) rfl (HEL.out.alloc _).now HFO.out HEL.out.base (by intro b hb;simp at hb;omega) (by simp;omega) (by simp [Value.oneCell']) (by omega) (by omega) ?_;intro v2 w9 SI2 q1 q2 q3 q4;obtain ⟨g3,c3,rfl⟩:=q4;have hB3:=(B3.out.alloc _).off q3 (fun h=>HIS.out.free _ h (by simp));obtain ⟨lx,cx,fx⟩:=hB3)
     clear lx cx fx
     clear lB1 cB1 fB1 lB2 cB2 fB2 lB3 cB3 fB3 lBI cBI fBI
     replace B1:=Lib.hid ((B1.out.alloc _).off q3 (fun h=>HIS.out.free _ h (by simp)))
     replace B2:=Lib.hid ((B2.out.alloc _).off q3 (fun h=>HIS.out.free _ h (by simp)))
     replace B3:=Lib.hid ((B3.out.alloc _).off q3 (fun h=>HIS.out.free _ h (by simp)))
     replace HTS:=Lib.hid ((HTS.out.alloc _).off q3 (fun k h1 h2=>HAT.out k h2 h1))
     replace HPS2:=Lib.hid ((HPS2.out.alloc _).off q3 (fun k h1 h2=>HAI.out k h2 h1))
     replace HW:=Lib.hid ((HW.out.alloc HW.out.size _).trans (q3.below (by simp;have:=HW.out.size;omega) (fun k _ hk=>by have:=HIS.out.base k hk;omega)))
     replace HAT:Hid (SI2.off ST):=Lib.hid (fun k h1 h2=>by
      rcases q2 k h1 with h3 | h3 | h3
      ·exact HAT.out k h3 h2
      ·exact HFT.out k h3 h2
      ·have:=HTL6.out k h2;simp at h3;omega)
     replace HAI:Hid (SI2.off SP):=Lib.hid (fun k h1 h2=>by
      rcases q2 k h1 with h3 | h3 | h3
      ·exact HAI.out k h3 h2
      ·exact HFP.out k h3 h2
      ·have:=HPL6.out k h2;simp at h3;omega)
     clear HIS BI
     have HIS:=Lib.hid q1
     clear q1 q2 q3 hb6 HEL HFO HTL6 HPL6 HFT HFP HP4L HPP4 HTL4



     obtain ⟨lB1,cB1,fB1⟩:=B1.out
     obtain ⟨lB2,cB2,fB2⟩:=B2.out
     obtain ⟨lB3,cB3,fB3⟩:=B3.out
     have B1_:Box (w9.setCell ⟨w.heap.size+1+1,1,none⟩ (.slice (some ⟨g3,0,none⟩) (k+1) c3)) (w.heap.size) #[.slice ap pl cp,.slice (some ⟨bc,oc,none⟩) cl cc,.int .i64 op,.int .i64 val,.slice ta tl tc,.int .i64 tn]:=by simpa using (B1.out.other (p:=⟨w.heap.size+1+1,1,none⟩) (.slice (some ⟨g3,0,none⟩) (k+1) c3) (by first | assumption | (simp;done) | omega | (dsimp only;omega)))
     have B2_:Box (w9.setCell ⟨w.heap.size+1+1,1,none⟩ (.slice (some ⟨g3,0,none⟩) (k+1) c3)) (w.heap.size+1) #[.slice none 0 0,.slice none 0 0,.int .i64 0,.int .i64 0,.slice none 0 0,.int .i64 0]:=by simpa using (B2.out.other (p:=⟨w.heap.size+1+1,1,none⟩) (.slice (some ⟨g3,0,none⟩) (k+1) c3) (by first | assumption | (simp;done) | omega | (dsimp only;omega)))
     have B3_:Box (w9.setCell ⟨w.heap.size+1+1,1,none⟩ (.slice (some ⟨g3,0,none⟩) (k+1) c3)) (w.heap.size+1+1) #[.slice av pl cv,(.slice (some ⟨g3,0,none⟩) (k+1) c3),.int .i64 op,.int .i64 val,.slice ta2 tl tc2,.int .i64 tn]:=by simpa using (B3.out.set 1 (.slice (some ⟨g3,0,none⟩) (k+1) c3))
     have HTS_:=(HTS.out.other (p:=⟨w.heap.size+1+1,1,none⟩) (.slice (some ⟨g3,0,none⟩) (k+1) c3) (by simp))
     have HPS2_:=(HPS2.out.other (p:=⟨w.heap.size+1+1,1,none⟩) (.slice (some ⟨g3,0,none⟩) (k+1) c3) (by simp))
     have HIS_:=(HIS.out.other (p:=⟨w.heap.size+1+1,1,none⟩) (.slice (some ⟨g3,0,none⟩) (k+1) c3) (by simp))
     have HW_:Below w.heap.size w (w9.setCell ⟨w.heap.size+1+1,1,none⟩ (.slice (some ⟨g3,0,none⟩) (k+1) c3)):=(HW.out.setCell (p:=⟨w.heap.size+1+1,1,none⟩) (by first | assumption | omega | (dsimp only;omega) | (have:=HW.out.size;omega) | (simp;done) | (simp;omega)) (.slice (some ⟨g3,0,none⟩) (k+1) c3))
     clear lB1 cB1 fB1 lB2 cB2 fB2 lB3 cB3 fB3
     clear B1 B2 B3 HTS HPS2 HIS HW
     generalize (w9.setCell ⟨w.heap.size+1+1,1,none⟩ (.slice (some ⟨g3,0,none⟩) (k+1) c3))=w10 at *
     have B1:=Lib.hid B1_
     clear B1_
     have B2:=Lib.hid B2_
     clear B2_
     have B3:=Lib.hid B3_
     clear B3_
     have HTS:=Lib.hid HTS_
     clear HTS_
     have HPS2:=Lib.hid HPS2_
     clear HPS2_
     have HIS:=Lib.hid HIS_
     clear HIS_
     have HW:=Lib.hid HW_
     clear HW_
     obtain ⟨lB1,cB1,fB1⟩:=B1.out
     obtain ⟨lB2,cB2,fB2⟩:=B2.out
     obtain ⟨lB3,cB3,fB3⟩:=B3.out
     rw [<-HTK.out] at HIS
     go_wp2
     go_roundw
     case rel=>exact ⟨k+1,.slice (some ⟨g3,0,none⟩) (k+1) c3,SI2,hlt2,by go_num,HW.out,B1.out,B2.out,B3.out,HTS.out,HPS2.out,HIS.out,HAT.out,HAI.out,_,_,rfl⟩
     case measure=>simp [intOf];omega
    ·have hkc:k=cl:=by omega
     have HIS2:Hid (Holds [w.heap.size,w.heap.size+1,w.heap.size+1+1] (w.heap.size+3) w5 SI (fun W=>OCode W SI (.slice au cl cu) x.code)):=Lib.hid (by
      have h9:=HIS.out
      rw [List.take_of_length_le (by have:=HCL.out;omega),hkc] at h9
      exact h9)
     rw [hkc] at B3
     clear HIS hkc HCX
     clear lB1 cB1 fB1 lB2 cB2 fB2 lB3 cB3 fB3




     obtain ⟨lB1,cB1,fB1⟩:=B1.out
     obtain ⟨lB2,cB2,fB2⟩:=B2.out
     obtain ⟨lB3,cB3,fB3⟩:=B3.out
     go_wp2
     have B1_:Box ((((((w5.setCell ⟨w.heap.size+1,0,none⟩ (.slice av pl cv)).setCell ⟨w.heap.size+1,1,none⟩ (.slice au cl cu)).setCell ⟨w.heap.size+1,2,none⟩ (.int .i64 op)).setCell ⟨w.heap.size+1,3,none⟩ (.int .i64 val)).setCell ⟨w.heap.size+1,4,none⟩ (.slice ta2 tl tc2)).setCell ⟨w.heap.size+1,5,none⟩ (.int .i64 tn)) (w.heap.size) #[.slice ap pl cp,.slice ac cl cc,.int .i64 op,.int .i64 val,.slice ta tl tc,.int .i64 tn]:=by simpa using ((((((B1.out.other (p:=⟨w.heap.size+1,0,none⟩) (.slice av pl cv) (by first | assumption | (simp;done) | omega | (dsimp only;omega))).other (p:=⟨w.heap.size+1,1,none⟩) (.slice au cl cu) (by first | assumption | (simp;done) | omega | (dsimp only;omega))).other (p:=⟨w.heap.size+1,2,none⟩) (.int .i64 op) (by first | assumption | (simp;done) | omega | (dsimp only;omega))).other (p:=⟨w.heap.size+1,3,none⟩) (.int .i64 val) (by first | assumption | (simp;done) | omega | (dsimp only;omega))).other (p:=⟨w.heap.size+1,4,none⟩) (.slice ta2 tl tc2) (by first | assumption | (simp;done) | omega | (dsimp only;omega))).other (p:=⟨w.heap.size+1,5,none⟩) (.int .i64 tn) (by first | assumption | (simp;done) | omega | (dsimp only;omega)))
     have B2_:Box ((((((w5.setCell ⟨w.heap.size+1,0,none⟩ (.slice av pl cv)).setCell ⟨w.heap.size+1,1,none⟩ (.slice au cl cu)).setCell ⟨w.heap.size+1,2,none⟩ (.int .i64 op)).setCell ⟨w.heap.size+1,3,none⟩ (.int .i64 val)).setCell ⟨w.heap.size+1,4,none⟩ (.slice ta2 tl tc2)).setCell ⟨w.heap.size+1,5,none⟩ (.int .i64 tn)) (w.heap.size+1) #[(.slice av pl cv),(.slice au cl cu),(.int .i64 op),(.int .i64 val),(.slice ta2 tl tc2),(.int .i64 tn)]:=by simpa using ((((((B2.out.set 0 (.slice av pl cv)).set 1 (.slice au cl cu)).set 2 (.int .i64 op)).set 3 (.int .i64 val)).set 4 (.slice ta2 tl tc2)).set 5 (.int .i64 tn))
     have B3_:Box ((((((w5.setCell ⟨w.heap.size+1,0,none⟩ (.slice av pl cv)).setCell ⟨w.heap.size+1,1,none⟩ (.slice au cl cu)).setCell ⟨w.heap.size+1,2,none⟩ (.int .i64 op)).setCell ⟨w.heap.size+1,3,none⟩ (.int .i64 val)).setCell ⟨w.heap.size+1,4,none⟩ (.slice ta2 tl tc2)).setCell ⟨w.heap.size+1,5,none⟩ (.int .i64 tn)) (w.heap.size+1+1) #[.slice av pl cv,.slice au cl cu,.int .i64 op,.int .i64 val,.slice ta2 tl tc2,.int .i64 tn]:=by simpa using ((((((B3.out.other (p:=⟨w.heap.size+1,0,none⟩) (.slice av pl cv) (by first | assumption | (simp;done) | omega | (dsimp only;omega))).other (p:=⟨w.heap.size+1,1,none⟩) (.slice au cl cu) (by first | assumption | (simp;done) | omega | (dsimp only;omega))).other (p:=⟨w.heap.size+1,2,none⟩) (.int .i64 op) (by first | assumption | (simp;done) | omega | (dsimp only;omega))).other (p:=⟨w.heap.size+1,3,none⟩) (.int .i64 val) (by first | assumption | (simp;done) | omega | (dsimp only;omega))).other (p:=⟨w.heap.size+1,4,none⟩) (.slice ta2 tl tc2) (by first | assumption | (simp;done) | omega | (dsimp only;omega))).other (p:=⟨w.heap.size+1,5,none⟩) (.int .i64 tn) (by first | assumption | (simp;done) | omega | (dsimp only;omega)))
     have HTS_:=((((((HTS.out.other (p:=⟨w.heap.size+1,0,none⟩) (.slice av pl cv) (by simp)).other (p:=⟨w.heap.size+1,1,none⟩) (.slice au cl cu) (by simp)).other (p:=⟨w.heap.size+1,2,none⟩) (.int .i64 op) (by simp)).other (p:=⟨w.heap.size+1,3,none⟩) (.int .i64 val) (by simp)).other (p:=⟨w.heap.size+1,4,none⟩) (.slice ta2 tl tc2) (by simp)).other (p:=⟨w.heap.size+1,5,none⟩) (.int .i64 tn) (by simp))
     have HPS2_:=((((((HPS2.out.other (p:=⟨w.heap.size+1,0,none⟩) (.slice av pl cv) (by simp)).other (p:=⟨w.heap.size+1,1,none⟩) (.slice au cl cu) (by simp)).other (p:=⟨w.heap.size+1,2,none⟩) (.int .i64 op) (by simp)).other (p:=⟨w.heap.size+1,3,none⟩) (.int .i64 val) (by simp)).other (p:=⟨w.heap.size+1,4,none⟩) (.slice ta2 tl tc2) (by simp)).other (p:=⟨w.heap.size+1,5,none⟩) (.int .i64 tn) (by simp))
     have HIS2_:=((((((HIS2.out.other (p:=⟨w.heap.size+1,0,none⟩) (.slice av pl cv) (by simp)).other (p:=⟨w.heap.size+1,1,none⟩) (.slice au cl cu) (by simp)).other (p:=⟨w.heap.size+1,2,none⟩) (.int .i64 op) (by simp)).other (p:=⟨w.heap.size+1,3,none⟩) (.int .i64 val) (by simp)).other (p:=⟨w.heap.size+1,4,none⟩) (.slice ta2 tl tc2) (by simp)).other (p:=⟨w.heap.size+1,5,none⟩) (.int .i64 tn) (by simp))
     have HW_:Below w.heap.size w ((((((w5.setCell ⟨w.heap.size+1,0,none⟩ (.slice av pl cv)).setCell ⟨w.heap.size+1,1,none⟩ (.slice au cl cu)).setCell ⟨w.heap.size+1,2,none⟩ (.int .i64 op)).setCell ⟨w.heap.size+1,3,none⟩ (.int .i64 val)).setCell ⟨w.heap.size+1,4,none⟩ (.slice ta2 tl tc2)).setCell ⟨w.heap.size+1,5,none⟩ (.int .i64 tn)):=((((((HW.out.setCell (p:=⟨w.heap.size+1,0,none⟩) (by first | assumption | omega | (dsimp only;omega) | (have:=HW.out.size;omega) | (simp;done) | (simp;omega)) (.slice av pl cv)).setCell (p:=⟨w.heap.size+1,1,none⟩) (by first | assumption | omega | (dsimp only;omega) | (have:=HW.out.size;omega) | (simp;done) | (simp;omega)) (.slice au cl cu)).setCell (p:=⟨w.heap.size+1,2,none⟩) (by first | assumption | omega | (dsimp only;omega) | (have:=HW.out.size;omega) | (simp;done) | (simp;omega)) (.int .i64 op)).setCell (p:=⟨w.heap.size+1,3,none⟩) (by first | assumption | omega | (dsimp only;omega) | (have:=HW.out.size;omega) | (simp;done) | (simp;omega)) (.int .i64 val)).setCell (p:=⟨w.heap.size+1,4,none⟩) (by first | assumption | omega | (dsimp only;omega) | (have:=HW.out.size;omega) | (simp;done) | (simp;omega)) (.slice ta2 tl tc2)).setCell (p:=⟨w.heap.size+1,5,none⟩) (by first | assumption | omega | (dsimp only;omega) | (have:=HW.out.size;omega) | (simp;done) | (simp;omega)) (.int .i64 tn))
     clear lB1 cB1 fB1 lB2 cB2 fB2 lB3 cB3 fB3
     clear B1 B2 B3 HTS HPS2 HIS2 HW
     generalize ((((((w5.setCell ⟨w.heap.size+1,0,none⟩ (.slice av pl cv)).setCell ⟨w.heap.size+1,1,none⟩ (.slice au cl cu)).setCell ⟨w.heap.size+1,2,none⟩ (.int .i64 op)).setCell ⟨w.heap.size+1,3,none⟩ (.int .i64 val)).setCell ⟨w.heap.size+1,4,none⟩ (.slice ta2 tl tc2)).setCell ⟨w.heap.size+1,5,none⟩ (.int .i64 tn))=w6 at *
     have B1:=Lib.hid B1_
     clear B1_
     have B2:=Lib.hid B2_
     clear B2_
     have B3:=Lib.hid B3_
     clear B3_
     have HTS:=Lib.hid HTS_
     clear HTS_
     have HPS2:=Lib.hid HPS2_
     clear HPS2_
     have HIS2:=Lib.hid HIS2_
     clear HIS2_
     have HW:=Lib.hid HW_
     clear HW_
     obtain ⟨lB1,cB1,fB1⟩:=B1.out
     obtain ⟨lB2,cB2,fB2⟩:=B2.out
     obtain ⟨lB3,cB3,fB3⟩:=B3.out
     refine bodyPost_ret (v:=.agg #[.slice av pl cv,.slice au cl cu,.int .i64 op,.int .i64 val,.slice ta2 tl tc2,.int .i64 tn]) (by simp [results,Try.results77,go_sem, *]) rfl ⟨_,_,_,fun q=>(SP q \/ SI q) \/ ST q,rfl,⟨⟨_,_,_,SP,SI,ST,rfl,HPS2.out.now,HIS2.out.now, ?_,fun k h1 h2=>HAI.out k h2 h1,HAP.out,HAT.out,fun k h=>.inl (.inl h),fun k h=>.inl (.inr h),fun k h=>.inr h⟩,fun k hk => ?_⟩,fun k hk => ?_,HW.out⟩
     ·obtain ⟨e1,e2,e3⟩:=HTE.out
      rw [e1,e2,e3]
      exact ⟨⟨_,rfl,HTS.out.now⟩,HX.out.op,HX.out.val,HX.out.n⟩
     ·rcases hk with (hk | hk) | hk
      ·exact HPS2.out.lt k hk
      ·exact HIS2.out.lt k hk
      ·exact HTS.out.lt k hk
     ·rcases hk with (hk | hk) | hk
      ·have:=HPS2.out.base k hk;omega
      ·have:=HIS2.out.base k hk;omega
      ·have:=HTS.out.base k hk;omega
end Go.Proofs.Ytblgdccoeecodaa
