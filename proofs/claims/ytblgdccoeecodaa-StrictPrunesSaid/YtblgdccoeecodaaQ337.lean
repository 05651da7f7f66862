/- What the claim needs,part 37. -/
import Derived.Test.YtblgdccoeecodaaQ336
import Derived.Test.YtblgdccoeecodaaQ322
namespace Go.Proofs.Ytblgdccoeecodaa
set_option linter.unusedSimpArgs false
set_option linter.unusedVariables false
open Go.RowKit
theorem func_eq {x y:FuncD} (h1:x.params=y.params) (h2:x.arrays=y.arrays) (h3:x.cells=y.cells) (h4:x.blocks=y.blocks):x=y:=by
 obtain ⟨a,b,c,d⟩:=x
 obtain ⟨a',b',c',d'⟩:=y
 simp only at h1 h2 h3 h4
 subst h1 h2 h3 h4
 rfl
set_option maxHeartbeats 25600000 in
set_option maxRecDepth 100000 in
theorem refSame {w:World} {v u:Value} {x y:FuncD} (hv:FuncV w v x) (hu:FuncV w u y) :
  Calls Try.prog 16 #[v,u] w fun e w'=>e = .returned (.bool (decide (x=y)))/\Below w.heap.size w w':=by
 obtain ⟨ap,cp,ab,cb,rfl,hp, -, -,hB⟩:=hv.form
 obtain ⟨ap2,cp2,ab2,cb2,rfl,hp2, -, -,hB2⟩:=hu.form
 obtain ⟨a',c',bb,bo,hbe,hbc,hbm, -,hba,hbx⟩:=blocks_parts hB
 cases hbe
 obtain ⟨a',c',bb2,bo2,hbe,hbc2,hbm2, -,hba2,hbx2⟩:=blocks_parts hB2
 cases hbe
 obtain ⟨np,hnp⟩ : ∃ n,n=x.params.length:=⟨_,rfl⟩
 obtain ⟨nb,hnb⟩ : ∃ n,n=x.blocks.length:=⟨_,rfl⟩
 obtain ⟨ar,har⟩ : ∃ n,n=x.arrays:=⟨_,rfl⟩
 obtain ⟨ce,hce⟩ : ∃ n,n=x.cells:=⟨_,rfl⟩
 obtain ⟨np2,hnp2⟩ : ∃ n,n=y.params.length:=⟨_,rfl⟩
 obtain ⟨nb2,hnb2⟩ : ∃ n,n=y.blocks.length:=⟨_,rfl⟩
 obtain ⟨ar2,har2⟩ : ∃ n,n=y.arrays:=⟨_,rfl⟩
 obtain ⟨ce2,hce2⟩ : ∃ n,n=y.cells:=⟨_,rfl⟩
 obtain ⟨q,hq⟩ : ∃ q,q=decide (x=y):=⟨_,rfl⟩
 rw [<-hq, <-hnp, <-hnb, <-har, <-hce, <-hnp2, <-hnb2, <-har2, <-hce2]
 rw [<-hnb] at hbc hba
 rw [<-hnb2] at hbc2 hba2
 rw [<-hnp] at hp
 rw [<-hnp2] at hp2
 have HQ:=Lib.hid hq
 have HNB:=Lib.hid hnb
 have HNB2:=Lib.hid hnb2
 have HAR:=Lib.hid (And.intro har har2)
 have HCE:=Lib.hid (And.intro hce hce2)
 have HP:=Lib.hid hp
 have HP2:=Lib.hid hp2
 have HBA:=Lib.hid hba
 have HBX:=Lib.hid hbx
 have HBA2:=Lib.hid hba2
 have HBX2:=Lib.hid hbx2
 clear hp hp2 hB hB2 hq hnp hnb har hce hnp2 hnb2 har2 hce2 hba hbx hba2 hbx2 hv hu
 go_enter Try.func16,Try.ntmps16
 go_upto_region 1 with (fail)
 have B1:Hid (Box ((w.alloc (.cells #[.slice ap np cp,.int .i64 ar,.int .i64 ce,.slice ab nb cb] 25)).alloc (.cells #[.slice ap2 np2 cp2,.int .i64 ar2,.int .i64 ce2,.slice ab2 nb2 cb2] 25)) (w.heap.size) #[.slice ap np cp,.int .i64 ar,.int .i64 ce,.slice ab nb cb]):=Lib.hid (by simpa using ((Box.new w #[.slice ap np cp,.int .i64 ar,.int .i64 ce,.slice ab nb cb] 25).alloc _))
 have B2:Hid (Box ((w.alloc (.cells #[.slice ap np cp,.int .i64 ar,.int .i64 ce,.slice ab nb cb] 25)).alloc (.cells #[.slice ap2 np2 cp2,.int .i64 ar2,.int .i64 ce2,.slice ab2 nb2 cb2] 25)) (w.heap.size+1) #[.slice ap2 np2 cp2,.int .i64 ar2,.int .i64 ce2,.slice ab2 nb2 cb2]):=Lib.hid (by simpa using (Box.new (w.alloc (.cells #[.slice ap np cp,.int .i64 ar,.int .i64 ce,.slice ab nb cb] 25)) #[.slice ap2 np2 cp2,.int .i64 ar2,.int .i64 ce2,.slice ab2 nb2 cb2] 25))
 have HW:Hid (Below w.heap.size w ((w.alloc (.cells #[.slice ap np cp,.int .i64 ar,.int .i64 ce,.slice ab nb cb] 25)).alloc (.cells #[.slice ap2 np2 cp2,.int .i64 ar2,.int .i64 ce2,.slice ab2 nb2 cb2] 25))):=Lib.hid (((Below.refl _ _).alloc (Nat.le_refl _) _).alloc (by simp) _)
 generalize ((w.alloc (.cells #[.slice ap np cp,.int .i64 ar,.int .i64 ce,.slice ab nb cb] 25)).alloc (.cells #[.slice ap2 np2 cp2,.int .i64 ar2,.int .i64 ce2,.slice ab2 nb2 cb2] 25))=wv at *
 obtain ⟨lB1,cB1,fB1⟩:=B1.out
 obtain ⟨lB2,cB2,fB2⟩:=B2.out
 cases h1:(ar != ar2)
 rotate_left
 ·skip
  have hqf:q=false:=by rw [HQ.out];exact decide_eq_false (fun e=>(by have h9:ar ≠ ar2:=(by simpa using h1);exact h9 (by rw [HAR.out.1,HAR.out.2,e])))
  subst hqf
  go_wp2
  go_ret
  exact ⟨rfl,HW.out⟩
 cases h2:(ce != ce2)
 rotate_left
 ·skip
  have hqf:q=false:=by rw [HQ.out];exact decide_eq_false (fun e=>(by have h9:ce ≠ ce2:=(by simpa using h2);exact h9 (by rw [HCE.out.1,HCE.out.2,e])))
  subst hqf
  go_wp2
  go_ret
  exact ⟨rfl,HW.out⟩
 go_wp2_with fail
 refine (sameB (HP.out.below HW.out) (HP2.out.below HW.out)).mono ?_
 rintro e w2 ⟨rfl,hb⟩
 obtain ⟨c,hc⟩ : ∃ c,c=decide (x.params=y.params):=⟨_,rfl⟩
 rw [<-hc]
 have HC:=Lib.hid hc
 clear hc
 clear lB1 cB1 fB1 lB2 cB2 fB2
 replace B1:=Lib.hid (B1.out.later hb)
 replace B2:=Lib.hid (B2.out.later hb)
 replace HW:=Lib.hid (HW.out.trans (hb.mono HW.out.size))
 clear hb
 obtain ⟨lB1,cB1,fB1⟩:=B1.out
 obtain ⟨lB2,cB2,fB2⟩:=B2.out
 cases c
 ·skip
  have hqf:q=false:=by rw [HQ.out];exact decide_eq_false (fun e=>(by have h9:=HC.out;simp [e] at h9))
  subst hqf
  go_wp2
  go_ret
  exact ⟨rfl,HW.out⟩
 cases h3:((nb:Int) != (nb2:Int))
 rotate_left
 ·skip
  have hqf:q=false:=by rw [HQ.out];exact decide_eq_false (fun e=>(by have h9:nb ≠ nb2:=(by simp at h3;omega);exact h9 (by rw [HNB.out,HNB2.out,e])))
  subst hqf
  go_wp2
  go_ret
  exact ⟨rfl,HW.out⟩
 have HEQ:Hid (x.params=y.params/\x.arrays=y.arrays/\x.cells=y.cells):=Lib.hid ⟨by simpa using HC.out.symm,by rw [<-HAR.out.1, <-HAR.out.2];simpa using h1,by rw [<-HCE.out.1, <-HCE.out.2];simpa using h2⟩
 obtain rfl:nb=nb2:=by simp at h3;omega
 clear HC HAR HCE HP HP2
 go_wp2_with fail
 clear h1 h2 h3
 go_loopw [5] (fun i wr => ∃ k:Nat,k <= nb/\i = .int .i64 k/\Below w.heap.size w wr/\Box wr w.heap.size #[.slice ap np cp,.int .i64 ar,.int .i64 ce,.slice ab nb cb]/\Box wr (w.heap.size+1) #[.slice ap2 np2 cp2,.int .i64 ar2,.int .i64 ce2,.slice ab2 nb cb2] /\ ∀ j,j < k -> x.blocks[j]? = y.blocks[j]?) (fun i _=>nb - (intOf i).toNat)
 case atStart=>exact ⟨0,Nat.zero_le _,rfl,HW.out,B1.out,B2.out,fun j h=>absurd h (Nat.not_lt_zero _)⟩
 case round =>
  obtain ⟨k,hk,rfl,hW,hb1,hb2,hs⟩:=hrel
  clear lB1 cB1 fB1 lB2 cB2 fB2
  replace HW:=Lib.hid hW
  replace B1:=Lib.hid hb1
  replace B2:=Lib.hid hb2
  have HS:=Lib.hid hs
  clear hW hb1 hb2 hs

  obtain ⟨lB1,cB1,fB1⟩:=B1.out
  obtain ⟨lB2,cB2,fB2⟩:=B2.out
  by_cases hlt:k < nb
  ·obtain ⟨rfl,hbp⟩:=HBA.out (by omega)
   obtain ⟨rfl,hbp2⟩:=HBA2.out (by omega)


   obtain ⟨p,hpk⟩ : ∃ p,x.blocks[k]? = some p:=⟨_,List.getElem?_eq_getElem (by have:=HNB.out;omega)⟩
   obtain ⟨r,hrk⟩ : ∃ r,y.blocks[k]? = some r:=⟨_,List.getElem?_eq_getElem (by have:=HNB2.out;omega)⟩
   obtain ⟨p1,p2,p3,q1,q2,q3,hP⟩:=HBX.out k p hpk
   obtain ⟨r1,r2,r3,s1,s2,s3,hR⟩:=HBX2.out k r hrk
   have HPK:=Lib.hid hpk
   have HRK:=Lib.hid hrk
   have HPP:=Lib.hid hP
   have HRR:=Lib.hid hR
   obtain ⟨c,hc⟩ : ∃ c,c=decide (p=r):=⟨_,rfl⟩
   have HC:=Lib.hid hc
   have HCT:Hid (∀ w4,Below wr.heap.size wr w4 -> Calls Try.prog 40 #[.agg #[.slice p1 p.phis.length q1,.slice p2 p.code.length q2,.int .i64 p.term.op,.int .i64 p.term.val,.slice p3 p.term.to.length q3,.int .i64 p.term.n],.agg #[.slice r1 r.phis.length s1,.slice r2 r.code.length s2,.int .i64 r.term.op,.int .i64 r.term.val,.slice r3 r.term.to.length s3,.int .i64 r.term.n]] w4 fun e w'=>e = .returned (.bool c)/\Below w4.heap.size w4 w'):=Lib.hid (fun w4 hb=>by
    rw [hc]
    exact refSameBlock ((HPP.out.blockV.below HW.out).below hb) ((HRR.out.blockV.below HW.out).below hb))
   have HNE:Hid (p ≠ r -> q=false):=Lib.hid (fun h=>by rw [HQ.out];exact decide_eq_false (fun e=>h (by have h9:=HPK.out;rw [e,HRK.out] at h9;cases h9;rfl)))
   clear hpk hrk hP hR hc
   go_upto_region 6 with (fail)
   refine wp_region_grow 12 (fun kz=>match kz with | 10=>.const (.bool c) | _=>.plain) (by kernel_rfl) (by kernel_rfl) ?_ (fun ν => ?_)
   ·(intro k;(try dsimp only);split <;> first | exact True.intro | (intro u w1 w2 hu hb;exact hu.below hb))
   simp only [List.take_succ_cons,List.take_zero,List.drop_succ_cons,List.drop_zero]
   iterate 4 (refine Grow.val (v := ?_) rfl rfl (fun wg hbg hdg => ?_) ?_;rotate_left;(focus ((obtain ⟨lg0,cg0,fg0⟩:=B1.out.later hbg);(obtain ⟨lg1,cg1,fg1⟩:=B2.out.later hbg);clear hbg hdg;first | (go_simp;done) | (go_simp;with_reducible rfl)));simp only [Act.put,List.setIfInBounds_toArray,List.set_cons_zero,List.set_cons_succ])
   refine Grow.val (v := ?_) rfl rfl (fun wg hbg hdg => ?_) ?_
   rotate_left
   focus ((obtain ⟨lg0,cg0,fg0⟩:=B1.out.later hbg);(obtain ⟨lg1,cg1,fg1⟩:=B2.out.later hbg);(obtain ⟨m0,m1,m2,m3,m4,m5, -, -, -, -, -, -⟩:=HPP.out.below (HW.out.trans (hbg.mono HW.out.size)) hbp);clear hbg hdg;first | (go_simp;done) | (go_simp;with_reducible rfl))
   simp only [Act.put,List.setIfInBounds_toArray,List.set_cons_zero,List.set_cons_succ]
   iterate 4 (refine Grow.val (v := ?_) rfl rfl (fun wg hbg hdg => ?_) ?_;rotate_left;(focus ((obtain ⟨lg0,cg0,fg0⟩:=B1.out.later hbg);(obtain ⟨lg1,cg1,fg1⟩:=B2.out.later hbg);clear hbg hdg;first | (go_simp;done) | (go_simp;with_reducible rfl)));simp only [Act.put,List.setIfInBounds_toArray,List.set_cons_zero,List.set_cons_succ])
   refine Grow.val (v := ?_) rfl rfl (fun wg hbg hdg => ?_) ?_
   rotate_left
   focus ((obtain ⟨lg0,cg0,fg0⟩:=B1.out.later hbg);(obtain ⟨lg1,cg1,fg1⟩:=B2.out.later hbg);(obtain ⟨m0,m1,m2,m3,m4,m5, -, -, -, -, -, -⟩:=HRR.out.below (HW.out.trans (hbg.mono HW.out.size)) hbp2);clear hbg hdg;first | (go_simp;done) | (go_simp;with_reducible rfl))
   simp only [Act.put,List.setIfInBounds_toArray,List.set_cons_zero,List.set_cons_succ]
   refine Grow.call (f := ?_) (args := ?_) rfl (fun wg => ?_) (fun wg hbg hdg => ?_) ?_
   rotate_left 2
   focus (first | (go_simp;done) | (go_simp;refine And.intro ?_ ?_ <;> with_reducible rfl) | (go_simp;with_reducible rfl))
   focus exact Calls.mono (HCT.out wg hbg) (fun e w2 ⟨he,hb2⟩=>⟨_,he,rfl,hb2⟩)
   simp only [Act.put,Known.val,List.setIfInBounds_toArray,List.set_cons_zero,List.set_cons_succ]
   refine Grow.val (v := ?_) rfl rfl (fun wg hbg hdg => ?_) ?_
   rotate_left
   focus ((obtain ⟨lg0,cg0,fg0⟩:=B1.out.later hbg);(obtain ⟨lg1,cg1,fg1⟩:=B2.out.later hbg);clear hbg hdg;first | (go_simp;done) | (go_simp;with_reducible rfl))
   simp only [Act.put,List.setIfInBounds_toArray,List.set_cons_zero,List.set_cons_succ]
   intro wg hb hf hap
   clear hap
   clear lB1 cB1 fB1 lB2 cB2 fB2
   replace B1:=Lib.hid (B1.out.later hb)
   replace B2:=Lib.hid (B2.out.later hb)
   replace HW:=Lib.hid (HW.out.trans (hb.mono HW.out.size))
   clear hb
   obtain ⟨lB1,cB1,fB1⟩:=B1.out
   obtain ⟨lB2,cB2,fB2⟩:=B2.out
   clear hf
   cases c
   ·have hqf:q=false:=HNE.out (by have:=HC.out;simpa using this)
    subst hqf
    go_wp2
    go_ret
    exact ⟨rfl,HW.out⟩
   ·have HPR:Hid (p=r):=Lib.hid (by have:=HC.out;simpa using this)
    go_wp2
    go_roundw
    case rel =>
     refine ⟨k+1,hlt,by go_num,HW.out,B1.out,B2.out,fun j hj => ?_⟩
     by_cases e:j=k
     ·subst e;rw [HPK.out,HRK.out,HPR.out]
     ·exact HS.out j (by omega)
    case measure=>simp [intOf];omega
  ·have hqt:q=true:=by rw [HQ.out];exact decide_eq_true (func_eq HEQ.out.1 HEQ.out.2.1 HEQ.out.2.2 (list_same HNB.out HNB2.out (fun j hj=>HS.out j (by omega))))
   subst hqt
   go_wp2
   go_ret
   exact ⟨rfl,HW.out⟩
end Go.Proofs.Ytblgdccoeecodaa
